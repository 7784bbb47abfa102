/-
  Disks, in plain terms: an array of whole disks (Hea); what a power failure can leave of a sector (Cand).
-/
import Derived.Test.YtpcjdmbnlhjlaaaGd
import Derived.Test.YtpcjdmbnlhjlaaaDiskR
namespace Go.Proofs.Ytpcjdmbnlhjlaaa
set_option linter.unusedVariables false
open Go.RowKit

def DS.now (S : DS) (i : Nat) : List Nat := (S.drv i).1
def DS.dur (S : DS) (i : Nat) : List Nat := (S.drv i).2.1
/-- What a sector may read behind a power failure. -/
def DS.Cand (S : DS) (i j v : Nat) : Prop := (S.dur i)[j]? = some v ∨ ∃ r ∈ S.log, r.1 = i ∧ r.2.1 = j ∧ r.2.2 = v

/-- An array of disks of these sizes, none of which is missing. -/
structure Hea (S : DS) (ns : List Nat) : Prop where
  nd : S.dr.length = ns.length
  nn : ∀ i n : Nat, ns[i]? = some n → (S.now i).length = n ∧ (S.dur i).length = n ∧ (S.drv i).2.2 = false
  sy : ∀ i j : Nat, (∀ r ∈ S.log, r.1 = i → r.2.1 ≠ j) → (S.dur i)[j]? = (S.now i)[j]?
  la : ∀ i j v : Nat, (S.now i)[j]? = some v → S.Cand i j v

theorem Hea.lt {S : DS} {ns : List Nat} (h : Hea S ns) {i n : Nat} (hi : ns[i]? = some n) : i < S.dr.length := by
  rw [h.nd]
  exact (List.getElem?_eq_some_iff.1 hi).1
theorem Hea.of {S S' : DS} {ns : List Nat} (h : Hea S ns) (h1 : S'.dr = S.dr) (h2 : S'.log = S.log) : Hea S' ns := by
  obtain ⟨dr, log, f, d, w⟩ := S
  obtain ⟨dr', log', f', d', w'⟩ := S'
  change dr' = dr at h1
  change log' = log at h2
  subst h1
  subst h2
  exact ⟨h.nd, h.nn, h.sy, h.la⟩
theorem Hea.size {S : DS} {ns : List Nat} (h : Hea S ns) {i n : Nat} (hi : ns[i]? = some n) : S.size (i : Int) = n := by
  have h1 := h.lt hi
  unfold DS.size
  rw [if_neg (by omega)]
  exact (h.nn i n hi).1
theorem Hea.chk {S : DS} {ns : List Nat} (h : Hea S ns) {i n : Nat} (hi : ns[i]? = some n) (a : Int) (ha : 0 ≤ a ∧ a < (n : Int)) : S.chk (i : Int) a = if S.down = true then 5 else 0 := by
  have h1 := h.lt hi
  have h2 := h.size hi
  have h3 := (h.nn i n hi).2.2
  have e1 : S.cLoc (i : Int) = 0 := by unfold DS.cLoc; rw [if_neg (by omega)]
  have e2 : S.cPla (i : Int) a = 0 := by unfold DS.cPla; rw [h2, if_neg (by omega)]
  have e3 : S.cMis (i : Int) = 0 := by unfold DS.cMis; rw [Int.toNat_natCast, h3]; rfl
  unfold DS.chk
  rw [e1, e2, e3]
  unfold DS.cPow
  cases S.down <;> rfl
theorem Hea.chkF {S : DS} {ns : List Nat} (h : Hea S ns) {i n : Nat} (hi : ns[i]? = some n) : S.chkF (i : Int) = if S.down = true then 5 else 0 := by
  have h1 := h.lt hi
  have h3 := (h.nn i n hi).2.2
  have e1 : S.cLoc (i : Int) = 0 := by unfold DS.cLoc; rw [if_neg (by omega)]
  have e3 : S.cMis (i : Int) = 0 := by unfold DS.cMis; rw [Int.toNat_natCast, h3]; rfl
  unfold DS.chkF
  rw [e1, e3]
  unfold DS.cPow
  cases S.down <;> rfl
theorem Hea.sE {S : DS} {ns : List Nat} (h : Hea S ns) {i n : Nat} (hi : ns[i]? = some n) (j : Nat) (hj : j < n) : S.sE i n (j : Int) = if S.down = true then 5 else 0 := by
  unfold DS.sE
  rw [if_pos (by omega)]
  exact h.chk hi _ (by omega)
theorem Hea.sread {S : DS} {ns : List Nat} (h : Hea S ns) {i n : Nat} (hi : ns[i]? = some n) (j : Nat) (hj : j < n) (hd : S.down = false) : S.sread i n (j : Int) = (S.now i)[j]?.getD 0 := by
  unfold DS.sread
  rw [if_pos (by omega)]
  unfold DS.read
  rw [h.chk hi _ (by omega), hd, if_pos (by rfl)]
  rfl
theorem Hea.swE {S : DS} {ns : List Nat} (h : Hea S ns) {i n : Nat} (hi : ns[i]? = some n) (j : Nat) (hj : j < n) : S.swE i n (j : Int) = if S.down = true ∨ S.fuse = 1 then 5 else 0 := by
  unfold DS.swE
  rw [if_pos (by omega)]
  unfold DS.writeE
  rw [h.chk hi _ (by omega)]
  by_cases hd : S.down = true
  · rw [if_pos hd, if_pos (by decide), if_pos (.inl hd)]
  · rw [if_neg hd, if_neg (by decide)]
    by_cases hf : S.fuse = 1
    · rw [if_pos hf, if_pos (.inr hf)]
    · rw [if_neg hf, if_neg (by rintro (h | h); exact hd h; exact hf h)]
theorem Hea.swrite {S : DS} {ns : List Nat} (h : Hea S ns) {i n : Nat} (hi : ns[i]? = some n) (j v : Nat) (hj : j < n) : S.swrite i n (j : Int) v = if S.down = true then S else if S.fuse = 1 then { S with fuse := 0, down := true } else S.burnt.wput i j v := by
  unfold DS.swrite
  rw [if_pos (by omega)]
  unfold DS.write
  rw [h.chk hi _ (by omega)]
  by_cases hd : S.down = true
  · rw [if_pos hd, if_pos (by decide), if_pos hd]
  · rw [if_neg hd, if_neg (by decide), if_neg hd]
    rfl

theorem wput_at (S : DS) (i j v k : Nat) (hi : i < S.dr.length) : (S.burnt.wput i j v).now k = (if k = i then (S.now i).set j v else S.now k) ∧ (S.burnt.wput i j v).dur k = S.dur k ∧ ((S.burnt.wput i j v).drv k).2.2 = (S.drv k).2.2 := by
  have e := drv_set (S.burnt.wput i j v) S.dr i k _ hi rfl
  unfold DS.now DS.dur
  rw [e]
  by_cases hk : k = i
  · subst hk
    simp only [if_pos]
    exact ⟨rfl, rfl, rfl⟩
  · simp only [if_neg hk]
    exact ⟨rfl, rfl, rfl⟩
theorem cand_wput (S : DS) (i j v : Nat) (hi : i < S.dr.length) (k b x : Nat) : (S.burnt.wput i j v).Cand k b x ↔ S.Cand k b x ∨ (k = i ∧ b = j ∧ x = v) := by
  unfold DS.Cand
  rw [(wput_at S i j v k hi).2.1]
  show (_ ∨ ∃ r ∈ S.log ++ [(i, j, v)], _) ↔ _
  constructor
  · rintro (h | ⟨r, hr, h1, h2, h3⟩)
    · exact .inl (.inl h)
    · rcases List.mem_append.1 hr with hr | hr
      · exact .inl (.inr ⟨r, hr, h1, h2, h3⟩)
      · rw [List.mem_singleton.1 hr] at h1 h2 h3
        exact .inr ⟨h1.symm, h2.symm, h3.symm⟩
  · rintro ((h | ⟨r, hr, h1, h2, h3⟩) | ⟨h1, h2, h3⟩)
    · exact .inl h
    · exact .inr ⟨r, List.mem_append.2 (.inl hr), h1, h2, h3⟩
    · exact .inr ⟨_, List.mem_append.2 (.inr (List.mem_singleton.2 rfl)), h1.symm, h2.symm, h3.symm⟩
theorem Hea.wput {S : DS} {ns : List Nat} (h : Hea S ns) {i n : Nat} (hi : ns[i]? = some n) (j v : Nat) (hj : j < n) : Hea (S.burnt.wput i j v) ns := by
  have hl := h.lt hi
  refine ⟨?_, ?_, ?_, ?_⟩
  · show (S.burnt.dr.set i _).length = _
    rw [List.length_set]
    exact h.nd
  · intro k m hk
    obtain ⟨e1, e2, e3⟩ := wput_at S i j v k hl
    obtain ⟨h1, h2, h3⟩ := h.nn k m hk
    rw [e1, e2, e3]
    refine ⟨?_, h2, h3⟩
    split
    · rename_i e
      subst e
      rw [List.length_set]
      exact h1
    · exact h1
  · intro k b hb
    obtain ⟨e1, e2, e3⟩ := wput_at S i j v k hl
    rw [e1, e2, h.sy k b (fun r hr => hb r (List.mem_append.2 (.inl hr)))]
    have h2 := hb (i, j, v) (List.mem_append.2 (.inr (List.mem_singleton.2 rfl)))
    split
    · rename_i e
      subst e
      rw [List.getElem?_set_ne (h2 rfl)]
    · rfl
  · intro k b x hx
    rw [cand_wput S i j v hl]
    rw [(wput_at S i j v k hl).1] at hx
    split at hx
    · rename_i e
      subst e
      by_cases hb : j = b
      · subst hb
        rw [List.getElem?_set_self (by rw [(h.nn k n hi).1]; exact hj)] at hx
        injection hx with hx
        exact .inr ⟨rfl, rfl, hx.symm⟩
      · rw [List.getElem?_set_ne hb] at hx
        exact .inl (h.la k b x hx)
    · exact .inl (h.la k b x hx)

theorem flDur_syn (now : List Nat) (i : Nat) (log : List (Nat × Nat × Nat)) (dur : List Nat) (hl : dur.length = now.length) (h : ∀ j, (∀ r ∈ log, r.1 = i → r.2.1 ≠ j) → dur[j]? = now[j]?) : flDur now i log dur = now := by
  induction log generalizing dur with
  | nil =>
    apply List.ext_getElem?
    intro k
    exact h k (by simp)
  | cons r l ih =>
    unfold flDur
    by_cases hr : r.1 = i
    · rw [if_pos hr]
      refine ih _ (by rw [List.length_set]; exact hl) (fun k hk => ?_)
      by_cases e : r.2.1 = k
      · subst e
        rw [List.getElem?_set_self']
        by_cases hn : r.2.1 < now.length
        · have hd : r.2.1 < dur.length := by omega
          rw [List.getElem?_eq_getElem (l := dur) hd, List.getElem?_eq_getElem (l := now) hn]
          rfl
        · rw [List.getElem?_eq_none (l := dur) (by omega), List.getElem?_eq_none (l := now) (by omega)]
          rfl
      · rw [List.getElem?_set_ne e]
        exact h k (by intro q hq h1; simp at hq; rcases hq with rfl | hq; exact e; exact hk q hq h1)
    · rw [if_neg hr]
      exact ih dur hl (fun k hk => h k (by intro q hq h1; simp at hq; rcases hq with rfl | hq; exact absurd h1 hr; exact hk q hq h1))

/-- What a flush leaves. -/
def DS.flS (S : DS) (i : Nat) : DS := { S.flTo i S.log.length with log := others i S.log }
theorem Hea.flush {S : DS} {ns : List Nat} (h : Hea S ns) {i n : Nat} (hi : ns[i]? = some n) : S.flush (i : Int) = if S.down = true then S else S.flS i := by
  unfold DS.flush
  rw [h.chkF hi]
  by_cases hd : S.down = true
  · rw [if_pos hd, if_pos (by decide), if_pos hd]
  · rw [if_neg hd, if_neg (by decide), if_neg hd]
    rfl
theorem flS_at {S : DS} {ns : List Nat} (h : Hea S ns) {i n : Nat} (hi : ns[i]? = some n) (k : Nat) : (S.flS i).now k = S.now k ∧ (S.flS i).dur k = (if k = i then S.now i else S.dur k) ∧ ((S.flS i).drv k).2.2 = (S.drv k).2.2 := by
  have hl := h.lt hi
  have e := drv_set (S.flS i) S.dr i k ((S.drv i).1, flDur (S.drv i).1 i (S.log.take S.log.length) (S.drv i).2.1, (S.drv i).2.2) hl rfl
  obtain ⟨h1, h2, h3⟩ := h.nn i n hi
  have hf := flDur_syn (S.drv i).1 i S.log (S.drv i).2.1 (by unfold DS.now at h1; unfold DS.dur at h2; omega) (fun j hj => h.sy i j hj)
  rw [List.take_length, hf] at e
  unfold DS.now DS.dur
  rw [e]
  by_cases hk : k = i
  · subst hk
    simp only [if_pos]
    exact ⟨by first | trivial | rfl, by first | trivial | rfl, by first | trivial | rfl⟩
  · simp only [if_neg hk]
    exact ⟨by first | trivial | rfl, by first | trivial | rfl, by first | trivial | rfl⟩
theorem others_mem (i : Nat) (l : List (Nat × Nat × Nat)) (r : Nat × Nat × Nat) : r ∈ others i l ↔ r ∈ l ∧ r.1 ≠ i := by
  unfold others
  simp
theorem cand_flS {S : DS} {ns : List Nat} (h : Hea S ns) {i n : Nat} (hi : ns[i]? = some n) (k b x : Nat) : (S.flS i).Cand k b x ↔ (if k = i then (S.now i)[b]? = some x else S.Cand k b x) := by
  unfold DS.Cand
  rw [(flS_at h hi k).2.1]
  show (_ ∨ ∃ r ∈ others i S.log, _) ↔ _
  by_cases hk : k = i
  · subst hk
    simp only [if_pos]
    constructor
    · rintro (h | ⟨r, hr, h1, h2, h3⟩)
      · exact h
      · exact absurd h1 ((others_mem _ _ _).1 hr).2
    · exact fun h => .inl h
  · simp only [if_neg hk]
    constructor
    · rintro (h | ⟨r, hr, h1⟩)
      · exact .inl h
      · exact .inr ⟨r, ((others_mem _ _ _).1 hr).1, h1⟩
    · rintro (h | ⟨r, hr, h1, h2⟩)
      · exact .inl h
      · exact .inr ⟨r, (others_mem _ _ _).2 ⟨hr, by rw [h1]; exact hk⟩, h1, h2⟩
theorem Hea.flS {S : DS} {ns : List Nat} (h : Hea S ns) {i n : Nat} (hi : ns[i]? = some n) : Hea (S.flS i) ns := by
  have hl := h.lt hi
  refine ⟨?_, ?_, ?_, ?_⟩
  · show (S.dr.set i _).length = _
    rw [List.length_set]
    exact h.nd
  · intro k m hk
    obtain ⟨e1, e2, e3⟩ := flS_at h hi k
    obtain ⟨h1, h2, h3⟩ := h.nn k m hk
    rw [e1, e2, e3]
    refine ⟨h1, ?_, h3⟩
    split
    · rename_i e
      subst e
      exact h1
    · exact h2
  · intro k b hb
    obtain ⟨e1, e2, e3⟩ := flS_at h hi k
    rw [e1, e2]
    by_cases hk : k = i
    · subst hk
      rw [if_pos rfl]
    · rw [if_neg hk]
      exact h.sy k b (fun r hr h1 => hb r ((others_mem _ _ _).2 ⟨hr, by rw [h1]; exact hk⟩) h1)
  · intro k b x hx
    rw [cand_flS h hi]
    rw [(flS_at h hi k).1] at hx
    split
    · rename_i e
      subst e
      exact hx
    · exact h.la k b x hx

/-- A power failure, and the power back. -/
theorem rsTo_at (S : DS) (bs : List Bool) (hlog : ∀ r ∈ S.log, r.1 < S.dr.length) (k : Nat) (hk : k ≤ S.log.length) (i : Nat) : ((S.rsTo bs k).dr.length = S.dr.length) ∧ (S.rsTo bs k).log = S.log ∧ (S.rsTo bs k).now i = S.now i ∧ ((S.rsTo bs k).drv i).2.2 = (S.drv i).2.2 ∧ ((S.rsTo bs k).dur i).length = (S.dur i).length ∧ ∀ j v, ((S.rsTo bs k).dur i)[j]? = some v → S.Cand i j v := by
  induction k with
  | zero => exact ⟨rfl, rfl, rfl, rfl, rfl, fun j v hv => .inl hv⟩
  | succ k ih =>
    obtain ⟨i0, i1, i2, i3, i4, i5⟩ := ih (by omega)
    rw [DS.rsTo]
    split
    · have hr : S.log[k]?.getD (0, 0, 0) ∈ S.log := by rw [List.getElem?_eq_getElem (by omega), Option.getD_some]; exact List.getElem_mem _
      have hlt := hlog _ hr
      generalize S.log[k]?.getD (0, 0, 0) = r at *
      have e := drv_set ((S.rsTo bs k).setDur r.1 r.2.1 r.2.2) (S.rsTo bs k).dr r.1 i _ (by rw [i0]; exact hlt) rfl
      refine ⟨by simp only [DS.setDur, List.length_set]; exact i0, i1, ?_, ?_, ?_, ?_⟩
      · unfold DS.now at i2 ⊢
        rw [e]
        split
        · rename_i h; subst h; exact i2
        · exact i2
      · rw [e]
        split
        · rename_i h; subst h; exact i3
        · exact i3
      · unfold DS.dur at i4 ⊢
        rw [e]
        split
        · rename_i h; subst h; simp only [List.length_set]; exact i4
        · exact i4
      · intro j v hv
        unfold DS.dur at hv
        rw [e] at hv
        split at hv
        · rename_i h
          subst h
          by_cases hj : r.2.1 = j
          · subst hj
            by_cases hl : r.2.1 < ((S.rsTo bs k).drv r.1).2.1.length
            · simp only [List.getElem?_set_self hl] at hv
              injection hv with hv
              exact .inr ⟨r, hr, rfl, rfl, hv⟩
            · rw [List.getElem?_eq_none (by simp; omega)] at hv
              cases hv
          · simp only [List.getElem?_set_ne hj] at hv
            exact i5 j v hv
        · exact i5 j v hv
    · exact ⟨i0, i1, i2, i3, i4, i5⟩
theorem cpTo_at (S : DS) (k : Nat) (hk : k ≤ S.dr.length) (i : Nat) : (S.cpTo k).dr.length = S.dr.length ∧ (S.cpTo k).drv i = if i < k then (S.dur i, S.dur i, (S.drv i).2.2) else S.drv i := by
  induction k with
  | zero => exact ⟨rfl, by rw [if_neg (by omega)]; rfl⟩
  | succ k ih =>
    obtain ⟨i0, i1⟩ := ih (by omega)
    rw [DS.cpTo]
    refine ⟨by simp only [DS.cpOne, List.length_set]; exact i0, ?_⟩
    have e := drv_set ((S.cpTo k).cpOne k) (S.cpTo k).dr k i _ (by rw [i0]; omega) rfl
    rw [e]
    by_cases h : i = k
    · subst h
      rw [if_pos rfl, if_pos (by omega), i1, if_neg (by omega)]
      rfl
    · rw [if_neg h]
      by_cases h2 : i < k
      · rw [if_pos (by omega)]
        rw [if_pos h2] at i1
        exact i1
      · rw [if_neg (by omega)]
        rw [if_neg h2] at i1
        exact i1
theorem restart_at {S : DS} {ns : List Nat} (h : Hea S ns) (hlog : ∀ r ∈ S.log, r.1 < S.dr.length) (bs : List Bool) : Hea (S.restart bs) ns ∧ (S.restart bs).log = [] ∧ (S.restart bs).fuse = 0 ∧ (S.restart bs).down = false ∧ (S.restart bs).wr = S.wr ∧
    (∀ i n : Nat, ns[i]? = some n → (S.restart bs).dur i = (S.restart bs).now i ∧ ∀ j v : Nat, ((S.restart bs).now i)[j]? = some v → S.Cand i j v) ∧ ∀ i j v : Nat, ns[i]? ≠ none → ((S.restart bs).Cand i j v ↔ ((S.restart bs).now i)[j]? = some v) := by
  have hd : ∀ i n : Nat, ns[i]? = some n → (S.restart bs).drv i = ((S.rsTo bs S.log.length).dur i, (S.rsTo bs S.log.length).dur i, (S.drv i).2.2) := by
    intro i n hi
    have hl := h.lt hi
    obtain ⟨r0, r1, r2, r3, r4, r5⟩ := rsTo_at S bs hlog S.log.length (Nat.le_refl _) i
    obtain ⟨c0, c1⟩ := cpTo_at (S.rsTo bs S.log.length) S.dr.length (by rw [r0]; exact Nat.le_refl _) i
    rw [if_pos hl, r3] at c1
    exact c1
  have hdn : ∀ i, ns[i]? = none → (S.restart bs).drv i = ([], [], false) := by
    intro i hi
    have hl : (S.restart bs).dr.length ≤ i := by
      obtain ⟨r0, -⟩ := rsTo_at S bs hlog S.log.length (Nat.le_refl _) i
      obtain ⟨c0, c1⟩ := cpTo_at (S.rsTo bs S.log.length) S.dr.length (by rw [r0]; exact Nat.le_refl _) i
      show ((S.rsTo bs S.log.length).cpTo S.dr.length).dr.length ≤ i
      rw [c0, r0, h.nd]
      exact List.getElem?_eq_none_iff.1 hi
    unfold DS.drv
    rw [List.getElem?_eq_none hl]
    rfl
  have hlg : (S.restart bs).log = [] := rfl
  have hcd : ∀ i j v : Nat, (S.restart bs).dur i = (S.restart bs).now i → ((S.restart bs).Cand i j v ↔ ((S.restart bs).now i)[j]? = some v) := by
    intro i j v e
    unfold DS.Cand
    rw [hlg, e]
    simp
  have heq : ∀ i, (S.restart bs).dur i = (S.restart bs).now i := by
    intro i
    unfold DS.dur DS.now
    rcases hn : ns[i]? with _ | n
    · rw [hdn i hn]
    · rw [hd i n hn]
  refine ⟨⟨?_, ?_, ?_, ?_⟩, rfl, rfl, rfl, ?_, ?_, fun i j v _ => hcd i j v (heq i)⟩
  · obtain ⟨r0, -⟩ := rsTo_at S bs hlog S.log.length (Nat.le_refl _) 0
    obtain ⟨c0, c1⟩ := cpTo_at (S.rsTo bs S.log.length) S.dr.length (by rw [r0]; exact Nat.le_refl _) 0
    show ((S.rsTo bs S.log.length).cpTo S.dr.length).dr.length = _
    rw [c0, r0, h.nd]
  · intro i n hi
    obtain ⟨r0, r1, r2, r3, r4, r5⟩ := rsTo_at S bs hlog S.log.length (Nat.le_refl _) i
    obtain ⟨h1, h2, h3⟩ := h.nn i n hi
    have e := hd i n hi
    unfold DS.now DS.dur
    rw [e]
    refine ⟨?_, ?_, h3⟩
    · exact r4.trans h2
    · exact r4.trans h2
  · intro i j _
    rw [heq i]
  · intro i j v hv
    exact (hcd i j v (heq i)).2 hv
  · show ((S.rsTo bs S.log.length).cpTo S.dr.length).wr = _
    rw [(cpTo_len _ _).2.2.2.2, (rsTo_len S bs _).2.2.2.2]
  · intro i n hi
    refine ⟨heq i, fun j v hv => ?_⟩
    obtain ⟨r0, r1, r2, r3, r4, r5⟩ := rsTo_at S bs hlog S.log.length (Nat.le_refl _) i
    have e := hd i n hi
    unfold DS.now at hv
    rw [e] at hv
    exact r5 j v hv

end Go.Proofs.Ytpcjdmbnlhjlaaa
