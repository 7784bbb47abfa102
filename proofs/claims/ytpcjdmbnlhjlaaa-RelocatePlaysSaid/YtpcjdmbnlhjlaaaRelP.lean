/-
  A mover over two disks, in plain terms: what is known of its sectors.
-/
import Derived.Test.YtpcjdmbnlhjlaaaDiskT
import Derived.Test.YtpcjdmbnlhjlaaaTrkP
namespace Go.Proofs.Ytpcjdmbnlhjlaaa
set_option linter.unusedVariables false

/-- The place of a sector. -/
def plc (ext done j : Nat) : Nat := if j / ext < done then 1 else 0
theorem plc_two (n ext done j : Nat) : [n, n][plc ext done j]? = some n := by
  unfold plc
  split <;> rfl
theorem plc_01 (ext done j : Nat) : plc ext done j = 0 ∨ plc ext done j = 1 := by
  unfold plc
  split
  · exact .inr rfl
  · exact .inl rfl
theorem plc_1 {ext done j : Nat} (h : plc ext done j = 1) : j / ext < done := by
  unfold plc at h
  split at h
  · assumption
  · cases h
theorem plc_lt {ext done j : Nat} (h : j / ext < done) : plc ext done j = 1 := if_pos h
theorem plc_ge {ext done j : Nat} (h : ¬ j / ext < done) : plc ext done j = 0 := if_neg h

structure MR (S : DS) (n ext done : Nat) (cp : Bool) (t : List Sec) : Prop where
  hea : Hea S [n, n]
  tl : t.length = n
  le : done ≤ n / ext
  cpd : cp = true → done < n / ext
  kn : ∀ j x, t[j]? = some x → x.kn = true → (S.now (plc ext done j))[j]? = some x.val
  cand : ∀ j x v, t[j]? = some x → S.Cand (plc ext done j) j v → v ∈ x.sm
  cpn : cp = true → ∀ j x, t[j]? = some x → j / ext = done → (S.now 1)[j]? = (S.now 0)[j]? ∧ ∀ v, S.Cand 1 j v → v ∈ x.sm
/-- All that can be read is what a power failure would leave. -/
structure MQ (S : DS) (ext done : Nat) (cp : Bool) : Prop where
  pw : S.fuse = 0 ∧ S.down = false
  q : ∀ j v, S.Cand (plc ext done j) j v → (S.now (plc ext done j))[j]? = some v
  cq : cp = true → ∀ j v, j / ext = done → S.Cand 1 j v → (S.now 1)[j]? = some v

theorem now_of {S S' : DS} (h1 : S'.dr = S.dr) (i : Nat) : S'.now i = S.now i := by
  unfold DS.now DS.drv
  rw [h1]
theorem cand_of {S S' : DS} (h1 : S'.dr = S.dr) (h2 : S'.log = S.log) (i j v : Nat) : S'.Cand i j v ↔ S.Cand i j v := by
  unfold DS.Cand DS.dur DS.drv
  rw [h1, h2]
theorem MR.of {S S' : DS} {n ext done : Nat} {cp : Bool} {t : List Sec} (h : MR S n ext done cp t) (h1 : S'.dr = S.dr) (h2 : S'.log = S.log) : MR S' n ext done cp t := by
  refine ⟨h.hea.of h1 h2, h.tl, h.le, h.cpd, ?_, ?_, ?_⟩
  · intro j x hx hk; rw [now_of h1]; exact h.kn j x hx hk
  · intro j x v hx hc; rw [cand_of h1 h2] at hc; exact h.cand j x v hx hc
  · intro hc j x hx hj
    rw [now_of h1, now_of h1]
    obtain ⟨a, b⟩ := h.cpn hc j x hx hj
    exact ⟨a, fun v hv => b v ((cand_of h1 h2 _ _ _).1 hv)⟩
theorem MR.down {S : DS} {n ext done : Nat} {cp : Bool} {t : List Sec} (h : MR S n ext done cp t) (f : Int) (d : Bool) : MR { S with fuse := f, down := d } n ext done cp t := h.of rfl rfl
theorem MR.nocp {S : DS} {n ext done : Nat} {cp : Bool} {t : List Sec} (h : MR S n ext done cp t) : MR S n ext done false t := ⟨h.hea, h.tl, h.le, (fun e => by cases e), h.kn, h.cand, (fun e => by cases e)⟩
/-- A write that failed. -/
theorem MR.lost {S : DS} {n ext done : Nat} {cp : Bool} {t : List Sec} (h : MR S n ext done cp t) (a v : Nat) : MR S n ext done cp (tWrote t a v false) := by
  refine ⟨h.hea, by unfold tWrote; rw [List.length_set]; exact h.tl, h.le, h.cpd, ?_, ?_, ?_⟩
  · intro j x hx hk
    rcases set_cases hx with ⟨rfl, rfl⟩ | ⟨hj, hx⟩
    · cases hk
    · exact h.kn j x hx hk
  · intro j x u hx hc
    rcases set_cases hx with ⟨rfl, rfl⟩ | ⟨hj, hx⟩
    · have hl : j < t.length := by simpa [tWrote] using (List.getElem?_eq_some_iff.1 hx).1
      have := h.cand j _ u (List.getElem?_eq_getElem hl) hc
      rw [tAt_eq (List.getElem?_eq_getElem hl)]
      exact List.mem_append.2 (.inl this)
    · exact h.cand j x u hx hc
  · intro hcp j x hx hj2
    rcases set_cases hx with ⟨rfl, rfl⟩ | ⟨hj, hx⟩
    · have hl : j < t.length := by simpa [tWrote] using (List.getElem?_eq_some_iff.1 hx).1
      obtain ⟨h1, h2⟩ := h.cpn hcp j _ (List.getElem?_eq_getElem hl) hj2
      refine ⟨h1, fun u hu => ?_⟩
      rw [tAt_eq (List.getElem?_eq_getElem hl)]
      exact List.mem_append.2 (.inl (h2 u hu))
    · exact h.cpn hcp j x hx hj2
/-- A write to the place of a sector alone. -/
theorem MR.put {S : DS} {n ext done : Nat} {cp : Bool} {t : List Sec} (h : MR S n ext done cp t) (a v : Nat) (ha : a < n) (hn : cp = true → a / ext ≠ done) : MR (S.burnt.wput (plc ext done a) a v) n ext done cp (tWrote t a v true) := by
  have hi := plc_two n ext done a
  have hl := h.hea.lt hi
  refine ⟨h.hea.wput hi a v ha, by unfold tWrote; rw [List.length_set]; exact h.tl, h.le, h.cpd, ?_, ?_, ?_⟩
  · intro j x hx hk
    rw [(wput_at S _ a v _ hl).1]
    rcases set_cases hx with ⟨rfl, rfl⟩ | ⟨hj, hx⟩
    · rw [if_pos rfl, List.getElem?_set_self (by rw [(h.hea.nn _ n hi).1]; exact ha)]
      rfl
    · have := h.kn j x hx hk
      split
      · rename_i e
        rw [List.getElem?_set_ne (fun e' => hj e'.symm), ← e]
        exact this
      · exact this
  · intro j x u hx hc
    rw [cand_wput S _ a v hl] at hc
    rcases set_cases hx with ⟨rfl, rfl⟩ | ⟨hj, hx⟩
    · have hl2 : j < t.length := by rw [h.tl]; exact ha
      rw [tAt_eq (List.getElem?_eq_getElem hl2)]
      rcases hc with hc | ⟨-, -, rfl⟩
      · exact List.mem_append.2 (.inl (h.cand j _ u (List.getElem?_eq_getElem hl2) hc))
      · exact List.mem_append.2 (.inr (List.mem_singleton.2 rfl))
    · rcases hc with hc | ⟨-, e, -⟩
      · exact h.cand j x u hx hc
      · exact absurd e hj
  · intro hcp j x hx hj2
    rw [(wput_at S _ a v 1 hl).1, (wput_at S _ a v 0 hl).1]
    have hne := hn hcp
    rcases set_cases hx with ⟨rfl, rfl⟩ | ⟨hj, hx⟩
    · exact absurd hj2 hne
    · obtain ⟨h1, h2⟩ := h.cpn hcp j x hx hj2
      refine ⟨?_, fun u hu => ?_⟩
      · have e1 : (if 1 = plc ext done a then (S.now (plc ext done a)).set a v else S.now 1)[j]? = (S.now 1)[j]? := by
          split
          · rename_i e; rw [List.getElem?_set_ne (fun e' => hj e'.symm), ← e]
          · rfl
        have e0 : (if 0 = plc ext done a then (S.now (plc ext done a)).set a v else S.now 0)[j]? = (S.now 0)[j]? := by
          split
          · rename_i e; rw [List.getElem?_set_ne (fun e' => hj e'.symm), ← e]
          · rfl
        rw [e1, e0]
        exact h1
      · rw [cand_wput S _ a v hl] at hu
        rcases hu with hu | ⟨-, e, -⟩
        · exact h2 u hu
        · exact absurd e hj
/-- A write to the extent that was copied: both places. -/
theorem MR.put2 {S : DS} {n ext done : Nat} {t : List Sec} (h : MR S n ext done true t) (a v : Nat) (ha : a < n) (hn : a / ext = done) : MR ((S.burnt.wput 0 a v).burnt.wput 1 a v) n ext done true (tWrote t a v true) := by
  have hp : plc ext done a = 0 := plc_ge (by omega)
  have hi0 : [n, n][0]? = some n := rfl
  have hi1 : [n, n][1]? = some n := rfl
  have hl0 := h.hea.lt hi0
  have hh := h.hea.wput hi0 a v ha
  have hl1 := hh.lt hi1
  have hnow : ∀ k, ((S.burnt.wput 0 a v).burnt.wput 1 a v).now k = if k = 1 then (S.now 1).set a v else if k = 0 then (S.now 0).set a v else S.now k := by
    intro k
    rw [(wput_at (S.burnt.wput 0 a v) 1 a v k hl1).1, (wput_at S 0 a v 1 hl0).1, (wput_at S 0 a v k hl0).1]
    by_cases e1 : k = 1
    · subst e1; simp
    · simp [e1]; try (intro e0; subst e0; rfl)
  have hcd : ∀ k b x, ((S.burnt.wput 0 a v).burnt.wput 1 a v).Cand k b x → S.Cand k b x ∨ (b = a ∧ x = v) := by
    intro k b x hx
    rw [cand_wput _ 1 a v hl1, cand_wput S 0 a v hl0] at hx
    rcases hx with (hx | ⟨-, e1, e2⟩) | ⟨-, e1, e2⟩
    · exact .inl hx
    · exact .inr ⟨e1, e2⟩
    · exact .inr ⟨e1, e2⟩
  have hlen : (S.now 0).length = n ∧ (S.now 1).length = n := ⟨(h.hea.nn 0 n rfl).1, (h.hea.nn 1 n rfl).1⟩
  have hl2 : a < t.length := by rw [h.tl]; exact ha
  refine ⟨hh.wput hi1 a v ha, by unfold tWrote; rw [List.length_set]; exact h.tl, h.le, h.cpd, ?_, ?_, ?_⟩
  · intro j x hx hk
    rw [hnow]
    rcases set_cases hx with ⟨rfl, rfl⟩ | ⟨hj, hx⟩
    · rw [hp, if_neg (by decide), if_pos rfl, List.getElem?_set_self (by omega)]
      rfl
    · have := h.kn j x hx hk
      split
      · rename_i e; rw [List.getElem?_set_ne (fun e' => hj e'.symm), ← e]; exact this
      · split
        · rename_i e; rw [List.getElem?_set_ne (fun e' => hj e'.symm), ← e]; exact this
        · exact this
  · intro j x u hx hc
    have hc := hcd _ _ _ hc
    rcases set_cases hx with ⟨rfl, rfl⟩ | ⟨hj, hx⟩
    · rw [tAt_eq (List.getElem?_eq_getElem hl2)]
      rcases hc with hc | ⟨-, rfl⟩
      · exact List.mem_append.2 (.inl (h.cand j _ u (List.getElem?_eq_getElem hl2) hc))
      · exact List.mem_append.2 (.inr (List.mem_singleton.2 rfl))
    · rcases hc with hc | ⟨e, -⟩
      · exact h.cand j x u hx hc
      · exact absurd e hj
  · intro hcp j x hx hj2
    rw [hnow, hnow, if_pos rfl, if_neg (by decide), if_pos rfl]
    rcases set_cases hx with ⟨rfl, rfl⟩ | ⟨hj, hx⟩
    · refine ⟨by rw [List.getElem?_set_self (by omega), List.getElem?_set_self (by omega)], fun u hu => ?_⟩
      rw [tAt_eq (List.getElem?_eq_getElem hl2)]
      rcases hcd _ _ _ hu with hu | ⟨-, rfl⟩
      · exact List.mem_append.2 (.inl ((h.cpn rfl j _ (List.getElem?_eq_getElem hl2) hj2).2 u hu))
      · exact List.mem_append.2 (.inr (List.mem_singleton.2 rfl))
    · obtain ⟨h1, h2⟩ := h.cpn rfl j x hx hj2
      refine ⟨by rw [List.getElem?_set_ne (fun e' => hj e'.symm), List.getElem?_set_ne (fun e' => hj e'.symm)]; exact h1, fun u hu => ?_⟩
      rcases hcd _ _ _ hu with hu | ⟨e, -⟩
      · exact h2 u hu
      · exact absurd e hj
/-- A write to the extent that is being copied. -/
theorem MR.cput {S : DS} {n ext done : Nat} {t : List Sec} (h : MR S n ext done false t) (a v : Nat) (ha : a < n) (hn : ¬ a / ext < done) : MR (S.burnt.wput 1 a v) n ext done false t := by
  have hi1 : [n, n][1]? = some n := rfl
  have hl := h.hea.lt hi1
  refine ⟨h.hea.wput hi1 a v ha, h.tl, h.le, (fun e => by cases e), ?_, ?_, (fun e => by cases e)⟩
  · intro j x hx hk
    rw [(wput_at S 1 a v _ hl).1]
    have := h.kn j x hx hk
    split
    · rename_i e
      have hj := plc_1 e
      rw [List.getElem?_set_ne (fun e' => by subst e'; exact hn hj), ← e]
      exact this
    · exact this
  · intro j x u hx hc
    rw [cand_wput S 1 a v hl] at hc
    rcases hc with hc | ⟨e, e2, -⟩
    · exact h.cand j x u hx hc
    · subst e2
      exact absurd (plc_1 e) hn
theorem MQ.cput {S : DS} {ext done n : Nat} (hh : Hea S [n, n]) (h : MQ S ext done false) (a v : Nat) (hn : ¬ a / ext < done) : MQ (S.burnt.wput 1 a v) ext done false := by
  have hl := hh.lt (i := 1) rfl
  refine ⟨⟨by show (if 0 < S.fuse then S.fuse - 1 else S.fuse) = 0; rw [h.pw.1]; rfl, h.pw.2⟩, ?_, (fun e => by cases e)⟩
  intro j u hc
  rw [cand_wput S 1 a v hl] at hc
  rw [(wput_at S 1 a v _ hl).1]
  rcases hc with hc | ⟨e, e2, -⟩
  · have := h.q j u hc
    split
    · rename_i e
      have hj := plc_1 e
      rw [List.getElem?_set_ne (fun e' => by subst e'; exact hn hj), ← e]
      exact this
    · exact this
  · subst e2
    exact absurd (plc_1 e) hn
/-- A flush of a place. -/
theorem MR.fl {S : DS} {n ext done : Nat} {cp : Bool} {t : List Sec} (h : MR S n ext done cp t) (i : Nat) (hi : [n, n][i]? = some n) : MR (S.flS i) n ext done cp t := by
  have hc : ∀ k b x, (S.flS i).Cand k b x → S.Cand k b x := by
    intro k b x hx
    rw [cand_flS h.hea hi] at hx
    split at hx
    · rename_i e; subst e; exact h.hea.la k b x hx
    · exact hx
  have hn : ∀ k, (S.flS i).now k = S.now k := fun k => (flS_at h.hea hi k).1
  refine ⟨h.hea.flS hi, h.tl, h.le, h.cpd, ?_, ?_, ?_⟩
  · intro j x hx hk; rw [hn]; exact h.kn j x hx hk
  · intro j x v hx hv; exact h.cand j x v hx (hc _ _ _ hv)
  · intro e j x hx hj
    rw [hn, hn]
    exact ⟨(h.cpn e j x hx hj).1, fun v hv => (h.cpn e j x hx hj).2 v (hc _ _ _ hv)⟩
theorem MQ.fl {S : DS} {n ext done : Nat} {cp : Bool} (hh : Hea S [n, n]) (h : MQ S ext done cp) (i : Nat) (hi : [n, n][i]? = some n) : MQ (S.flS i) ext done cp := by
  have hn : ∀ k, (S.flS i).now k = S.now k := fun k => (flS_at hh hi k).1
  have hc : ∀ k b x, (S.flS i).Cand k b x → S.Cand k b x := by
    intro k b x hx
    rw [cand_flS hh hi] at hx
    split at hx
    · rename_i e; subst e; exact hh.la k b x hx
    · exact hx
  exact ⟨h.pw, fun j v hv => by rw [hn]; exact h.q j v (hc _ _ _ hv), fun e j v hj hv => by rw [hn]; exact h.cq e j v hj (hc _ _ _ hv)⟩
/-- The extent is copied, and flushed. -/
theorem MR.copied {S : DS} {n ext done : Nat} {t : List Sec} (h : MR S n ext done false t) (hd : done < n / ext) (hc : ∀ j, j < n → j / ext = done → (S.now 1)[j]? = (S.now 0)[j]?) : MR (S.flS 1) n ext done true t := by
  have hf := h.fl 1 rfl
  have hn : ∀ k, (S.flS 1).now k = S.now k := fun k => (flS_at h.hea (i := 1) rfl k).1
  refine ⟨hf.hea, hf.tl, hf.le, fun _ => hd, hf.kn, hf.cand, ?_⟩
  intro _ j x hx hj
  have hjn : j < n := by rw [← h.tl]; exact (List.getElem?_eq_some_iff.1 hx).1
  have he := hc j hjn hj
  refine ⟨by rw [hn, hn]; exact he, fun v hv => ?_⟩
  rw [cand_flS h.hea (i := 1) rfl, if_pos rfl, he] at hv
  have := h.cand j x v hx
  rw [plc_ge (by omega)] at this
  exact this (h.hea.la 0 j v hv)
theorem MQ.copied {S : DS} {n ext done : Nat} (hh : Hea S [n, n]) (h : MQ S ext done false) : MQ (S.flS 1) ext done true := by
  have hf := MQ.fl hh h 1 rfl
  refine ⟨hf.pw, hf.q, fun _ j v hj hv => ?_⟩
  rw [cand_flS hh (i := 1) rfl, if_pos rfl] at hv
  rw [(flS_at hh (i := 1) rfl 1).1]
  exact hv
/-- The mover goes on. -/
theorem plc_next {ext done j : Nat} : plc ext (done + 1) j = if j / ext = done then 1 else plc ext done j := by
  unfold plc
  by_cases h1 : j / ext = done
  · rw [if_pos h1, if_pos (by omega)]
  · rw [if_neg h1]
    by_cases h2 : j / ext < done
    · rw [if_pos h2, if_pos (by omega)]
    · rw [if_neg h2, if_neg (by omega)]
theorem MR.next {S : DS} {n ext done : Nat} {t : List Sec} (h : MR S n ext done true t) : MR S n ext (done + 1) false t := by
  have hd := h.cpd rfl
  refine ⟨h.hea, h.tl, by omega, (fun e => by cases e), ?_, ?_, (fun e => by cases e)⟩
  · intro j x hx hk
    have := h.kn j x hx hk
    rw [plc_next]
    split
    · rename_i e
      rw [plc_ge (by omega)] at this
      rw [(h.cpn rfl j x hx e).1]
      exact this
    · exact this
  · intro j x v hx hc
    rw [plc_next] at hc
    split at hc
    · rename_i e
      exact (h.cpn rfl j x hx e).2 v hc
    · exact h.cand j x v hx hc
theorem MQ.next {S : DS} {ext done : Nat} (h : MQ S ext done true) : MQ S ext (done + 1) false := by
  refine ⟨h.pw, ?_, (fun e => by cases e)⟩
  intro j v hc
  rw [plc_next] at hc ⊢
  split
  · rename_i e
    rw [if_pos e] at hc
    exact h.cq rfl j v e hc
  · rename_i e
    rw [if_neg e] at hc
    exact h.q j v hc
/-- A read. -/
theorem MR.may {S : DS} {n ext done : Nat} {cp : Bool} {t : List Sec} (h : MR S n ext done cp t) (a : Nat) (ha : a < n) : tMay t a ((S.now (plc ext done a))[a]?.getD 0) := by
  have hl2 : a < t.length := by rw [h.tl]; exact ha
  have hx := List.getElem?_eq_getElem hl2
  have hnl := (h.hea.nn _ n (plc_two n ext done a)).1
  have hv := List.getElem?_eq_getElem (l := S.now (plc ext done a)) (i := a) (by omega)
  unfold tMay
  rw [tAt_eq hx]
  unfold Sec.may
  split
  · rename_i e
    have := h.kn a _ hx e
    rw [this]
    rfl
  · refine h.cand a _ _ hx ?_
    rw [hv, Option.getD_some]
    exact h.hea.la _ a _ hv
theorem MR.read {S : DS} {n ext done : Nat} {cp : Bool} {t : List Sec} (h : MR S n ext done cp t) (a : Nat) (ha : a < n) (st : Bool) (hq : st = true → MQ S ext done cp) : MR S n ext done cp (tRead t a ((S.now (plc ext done a))[a]?.getD 0) st) := by
  have hl2 : a < t.length := by rw [h.tl]; exact ha
  have hx0 := List.getElem?_eq_getElem hl2
  have hnl := (h.hea.nn _ n (plc_two n ext done a)).1
  have hv := List.getElem?_eq_getElem (l := S.now (plc ext done a)) (i := a) (by omega)
  have hg : (S.now (plc ext done a))[a]?.getD 0 = (S.now (plc ext done a))[a] := by rw [hv]; rfl
  rw [hg]
  generalize (S.now (plc ext done a))[a] = v at *
  unfold tRead
  rw [tAt_eq hx0]
  refine ⟨h.hea, by rw [List.length_set]; exact h.tl, h.le, h.cpd, ?_, ?_, ?_⟩
  · intro j x hx hk
    rcases set_cases hx with ⟨rfl, rfl⟩ | ⟨hj, hx⟩
    · unfold Sec.read
      split
      · rename_i e; exact h.kn j _ hx0 e
      · exact hv
    · exact h.kn j x hx hk
  · intro j x u hx hc
    rcases set_cases hx with ⟨rfl, rfl⟩ | ⟨hj, hx⟩
    · unfold Sec.read
      split
      · exact h.cand j _ u hx0 hc
      · split
        · rename_i e
          have := (hq e).q j u hc
          rw [hv] at this
          injection this with this
          exact List.mem_singleton.2 this.symm
        · have := h.cand j _ u hx0 hc
          exact this
    · exact h.cand j x u hx hc
  · intro e0 j x hx hj2
    rcases set_cases hx with ⟨rfl, rfl⟩ | ⟨hj, hx⟩
    · obtain ⟨h1, h2⟩ := h.cpn e0 j _ hx0 hj2
      refine ⟨h1, fun u hu => ?_⟩
      unfold Sec.read
      split
      · exact h2 u hu
      · split
        · rename_i e
          have := (hq e).cq e0 j u hj2 hu
          rw [h1] at this
          rw [plc_ge (by omega)] at hv
          rw [hv] at this
          injection this with this
          exact List.mem_singleton.2 this.symm
        · exact h2 u hu
    · exact h.cpn e0 j x hx hj2
/-- Both places are flushed. -/
theorem MR.flushed {S : DS} {n ext done : Nat} {cp : Bool} {t : List Sec} (h : MR S n ext done cp t) : MR ((S.flS 0).flS 1) n ext done cp (tFlushed t) := by
  have h0 := h.fl 0 rfl
  have h1 := h0.fl 1 rfl
  have hn : ∀ k, ((S.flS 0).flS 1).now k = S.now k := fun k => ((flS_at h0.hea (i := 1) rfl k).1).trans (flS_at h.hea (i := 0) rfl k).1
  have hc : ∀ k b x, k = 0 ∨ k = 1 → ((S.flS 0).flS 1).Cand k b x → (S.now k)[b]? = some x := by
    intro k b x hk hx
    rw [cand_flS h0.hea (i := 1) rfl] at hx
    rcases hk with rfl | rfl
    · rw [if_neg (by decide), cand_flS h.hea (i := 0) rfl, if_pos rfl] at hx
      exact hx
    · rw [if_pos rfl, (flS_at h.hea (i := 0) rfl 1).1] at hx
      exact hx
  have hp : ∀ j, plc ext done j = 0 ∨ plc ext done j = 1 := by intro j; unfold plc; split; exact .inr rfl; exact .inl rfl
  refine ⟨h1.hea, by unfold tFlushed; rw [List.length_map]; exact h.tl, h.le, h.cpd, ?_, ?_, ?_⟩
  · intro j x hx hk
    obtain ⟨y, hy, rfl⟩ := map_cases hx
    rw [hn]
    unfold Sec.flushed at hk ⊢
    split
    · rename_i e; exact h.kn j y hy e
    · rename_i e
      rw [if_neg e] at hk
      exact absurd hk e
  · intro j x v hx hv
    obtain ⟨y, hy, rfl⟩ := map_cases hx
    have hv := hc _ _ _ (hp j) hv
    unfold Sec.flushed
    split
    · rename_i e
      have := h.kn j y hy e
      rw [hv] at this
      injection this with this
      exact List.mem_singleton.2 this
    · exact h.cand j y v hy (h.hea.la _ j v hv)
  · intro e0 j x hx hj
    obtain ⟨y, hy, rfl⟩ := map_cases hx
    rw [hn, hn]
    obtain ⟨a1, a2⟩ := h.cpn e0 j y hy hj
    refine ⟨a1, fun v hv => ?_⟩
    have hv := hc _ _ _ (.inr rfl) hv
    unfold Sec.flushed
    split
    · rename_i e
      have := h.kn j y hy e
      rw [plc_ge (by omega), ← a1, hv] at this
      injection this with this
      exact List.mem_singleton.2 this
    · exact a2 v (h.hea.la _ j v hv)
/-- The power failed, and is back. -/
theorem MR.again {S : DS} {n ext done : Nat} {cp : Bool} {t : List Sec} (h : MR S n ext done cp t) (hlog : ∀ r ∈ S.log, r.1 < S.dr.length) (bs : List Bool) : MR (S.restart bs) n ext done false (tFailed t) ∧ MQ (S.restart bs) ext done false := by
  obtain ⟨r1, r2, r3, r4, r5, r6, r7⟩ := restart_at h.hea hlog bs
  have hp : ∀ j, [n, n][plc ext done j]? ≠ none := by intro j; rw [plc_two]; simp
  refine ⟨⟨r1, by unfold tFailed; rw [List.length_map]; exact h.tl, h.le, (fun e => by cases e), ?_, ?_, (fun e => by cases e)⟩, ⟨⟨r3, r4⟩, fun j v hv => (r7 _ j v (hp j)).1 hv, (fun e => by cases e)⟩⟩
  · intro j x hx hk
    obtain ⟨y, hy, rfl⟩ := map_cases hx
    cases hk
  · intro j x v hx hv
    obtain ⟨y, hy, rfl⟩ := map_cases hx
    exact h.cand j y v hy ((r6 _ n (plc_two n ext done j)).2 j v ((r7 _ j v (hp j)).1 hv))
/-- At the start. -/
theorem MR.start (n ext : Nat) (l0 l1 : List Nat) (h0 : l0.length = n) (h1 : l1.length = n) : MR (DS.full [l0, l1]) n ext 0 false (l0.map Sec.start) ∧ MQ (DS.full [l0, l1]) ext 0 false := by
  have hp : ∀ j, plc ext 0 j = 0 := fun j => plc_ge (Nat.not_lt_zero _)
  have hn0 : (DS.full [l0, l1]).now 0 = l0 := rfl
  have hc0 : ∀ j v, (DS.full [l0, l1]).Cand 0 j v ↔ l0[j]? = some v := by
    intro j v
    constructor
    · rintro (h | ⟨r, hr, _⟩)
      · exact h
      · exact absurd hr (by show ¬ r ∈ ([] : List (Nat × Nat × Nat)); simp)
    · exact fun h => .inl h
  refine ⟨⟨⟨rfl, ?_, ?_, ?_⟩, by rw [List.length_map]; exact h0, Nat.zero_le _, (fun e => by cases e), ?_, ?_, (fun e => by cases e)⟩, ⟨⟨rfl, rfl⟩, fun j v hv => by rw [hp] at hv ⊢; exact (hc0 j v).1 hv, (fun e => by cases e)⟩⟩
  · intro i m hi
    rcases i with _ | _ | i
    · simp at hi; subst hi; exact ⟨h0, h0, rfl⟩
    · simp at hi; subst hi; exact ⟨h1, h1, rfl⟩
    · simp at hi
  · intro i j _
    rcases i with _ | _ | i
    · rfl
    · rfl
    · rfl
  · intro i j v hv
    left
    rcases i with _ | _ | i
    · exact hv
    · exact hv
    · exact hv
  · intro j x hx hk
    obtain ⟨y, hy, rfl⟩ := map_cases hx
    rw [hp, hn0]
    exact hy
  · intro j x v hx hv
    obtain ⟨y, hy, rfl⟩ := map_cases hx
    rw [hp, hc0, hy] at hv
    injection hv with hv
    exact List.mem_singleton.2 hv.symm

end Go.Proofs.Ytpcjdmbnlhjlaaa
