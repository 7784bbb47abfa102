/-
  A region that draws its order: the head's operations yield the same values in every world that meets S; what follows is forced; S holds till the operation that waits for all of the head.
-/
import Derived.Test.YtjnkajdfdhockaaRound
import Derived.OrdersHeld
import Derived.StillTail
namespace Go.Proofs.Ytjnkajdfdhockaa
set_option linter.unusedVariables false
open Go

section
variable {P : Program} {md : Region.Mode} {ops : Array Oper} {Q : Exit → Act → World → Prop} {S : World → Prop} {n : Nat}

def wpAnyT (P : Program) (md : Region.Mode) (ops : Array Oper) (Q : Exit → Act → World → Prop) (S : World → Prop) (n : Nat) : Nat → Array Bool → Act → World → Prop
  | 0, listed, a, w => Region.ready md ops listed = [] ∧ Q .normal a w
  | f + 1, listed, a, w => (Region.ready md ops listed = [] → Q .normal a w) ∧
    ∀ i ∈ Region.ready md ops listed, wpOp P ops Q i (fun a' w' => (i < n → S w') ∧ wpAnyT P md ops Q S n f (listed.setIfInBounds i true) a' w') a w

theorem wpAny_of_T : ∀ (f : Nat) (listed : Array Bool) (a : Act) (w : World), wpAnyT P md ops Q S n f listed a w → wpAny P md ops Q f listed a w
  | 0, _, _, _, h => h
  | f + 1, _, _, _, h => ⟨h.1, fun i hi => wpOp_mono (fun a' w' h' => wpAny_of_T f _ a' w' h'.2) (h.2 i hi)⟩

theorem wpAnyT_first {i : Nat} {oi : Oper} {v : Value} (hi : ops[i]? = some oi) (hsel : ∀ (j : Nat) (o : Oper) cs b, ops[j]? = some o → o.op ≠ .select cs b)
    (hs : Region.sinkB md ops n = true) (hc : Region.chainB md ops n = true) (hn : n < ops.size) (hin : i < n)
    (hQ : ∀ c a w, Q (.panic c) (a.put oi.dst v) w → Q (.panic c) a w) :
    ∀ (f : Nat) (listed : Array Bool) (a : Act) (w : World), HeadInv md ops n listed →
      (∀ j oj, ops[j]? = some oj → j ≠ i → listed.getD j true = false → (∀ e ∈ oj.after, Region.binds md e = true → e.on ≠ i) → oi.apart ops oj = true) →
      i ∈ Region.ready md ops listed → YieldsIf P ops S oi v a → S w →
      wpAnyT P md ops Q S n f (listed.setIfInBounds i true) (a.put oi.dst v) w → wpAnyT P md ops Q S n (f + 1) listed a w := by
  intro f
  induction f with
  | zero =>
    intro listed a w inv _ hr hy hS H
    refine ⟨fun h => (by rw [h] at hr; cases hr), fun j hj => ?_⟩
    by_cases hji : j = i
    · subst hji; exact hy.wpOp hi hS ⟨fun _ => hS, H⟩
    · have := ready_mono hj hji
      rw [H.1] at this
      cases this
  | succ f ih =>
    intro listed a w inv hfree hr hy hS H
    have hun := (mem_ready.1 hr).1
    refine ⟨fun h => (by rw [h] at hr; cases hr), fun j hj => ?_⟩
    have hjn : j < n := by
      rcases Nat.lt_or_ge j n with h | h
      · exact h
      · exact absurd hj (tail_waits hs hc hn inv _ i rfl hin hun j h)
    by_cases hji : j = i
    · subst hji; exact hy.wpOp hi hS ⟨fun _ => hS, H⟩
    · have h1 := H.2 j (ready_mono hj hji)
      obtain ⟨hjun, oj, hoj, hall⟩ := mem_ready.1 hj
      have hnot : ∀ e ∈ oj.after, Region.binds md e = true → e.on ≠ i := fun e he hb heq => by
        have h1 := hall e he hb
        rw [heq, getD_both hun] at h1
        cases h1
      have h2 := wpOp_putIf hoj (hfree j oj hoj hji hjun hnot) (fun cs b => hsel i oi cs b hi) (fun cs b => hsel j oj cs b hoj) hQ hy h1
      have hfree' : ∀ k ok, ops[k]? = some ok → k ≠ i → (listed.setIfInBounds j true).getD k true = false →
          (∀ e ∈ ok.after, Region.binds md e = true → e.on ≠ i) → oi.apart ops ok = true := fun k ok hk hki hun hno => by
        refine hfree k ok hk hki ?_ hno
        by_cases hjk : j = k
        · subst hjk; exact hjun
        · rw [getD_set_ne true hjk] at hun; exact hun
      refine wpOp_mono (fun a' w' h3 => ⟨h3.2.1, ih (listed.setIfInBounds j true) a' w' (inv.set hj hjn) hfree' (ready_mono hr (Ne.symm hji)) h3.1 (h3.2.1 hjn) ?_⟩) h2
      rw [Array.setIfInBounds_comm _ _ hji]
      exact h3.2.2

/-- The head, in the text's order: each operation yields its value in every world that meets S. -/
def wpHeadS (P : Program) (ops : Array Oper) (Q : Exit → Act → World → Prop) (S : World → Prop) (T : Act → Prop) : List Oper → Act → Prop
  | [], a => T a
  | o :: l, a => ∃ v, YieldsIf P ops S o v a ∧ (∀ c a w, Q (.panic c) (a.put o.dst v) w → Q (.panic c) a w) ∧ wpHeadS P ops Q S T l (a.put o.dst v)

/-- What follows, in the text's order; S is shown anew ahead of operation n. -/
def wpSeqT (P : Program) (ops : Array Oper) (Q : Exit → Act → World → Prop) (S : World → Prop) (n : Nat) : Nat → List Oper → Act → World → Prop
  | _, [], a, w => Q .normal a w
  | k, o :: l, a, w => if Region.wanted o (yielded ops a.tmps) = true then o.wp P a w (fun a' w' => (k < n → S w') ∧ wpSeqT P ops Q S n (k + 1) l a' w') Q ∨ (o.asks P a w ∧ LetsOut Q) else (k < n → S w) ∧ wpSeqT P ops Q S n (k + 1) l (a.put o.dst undef) w

theorem wpSeqT_list : ∀ (l : List Oper) (k : Nat) (a : Act) (w : World), n ≤ k → wpList P ops Q l a w → wpSeqT P ops Q S n k l a w
  | [], _, _, _, _, h => h
  | o :: l, k, a, w, hk, h => by
    unfold wpSeqT
    unfold wpList at h
    split
    · rename_i hw
      rw [if_pos hw] at h
      exact h.imp (Oper.wp_mono (fun a' w' h' => ⟨fun hh => absurd hh (by omega), wpSeqT_list l (k + 1) a' w' (by omega) h'⟩)) id
    · rename_i hw
      rw [if_neg hw] at h
      exact ⟨fun hh => absurd hh (by omega), wpSeqT_list l (k + 1) _ w (by omega) h⟩

theorem wpSeqT_step {k : Nat} {o : Oper} {l : List Oper} {a : Act} {w : World}
    (h : ∀ K : Act → World → Prop, (∀ a w, (k < n → S w) → wpSeqT P ops Q S n (k + 1) l a w → K a w) → if Region.wanted o (yielded ops a.tmps) = true then o.wp P a w K Q else K (a.put o.dst undef) w) : wpSeqT P ops Q S n k (o :: l) a w := by
  have := h (fun a w => (k < n → S w) ∧ wpSeqT P ops Q S n (k + 1) l a w) (fun a w h1 h2 => ⟨h1, h2⟩)
  unfold wpSeqT
  split
  · rename_i hw; rw [if_pos hw] at this; exact .inl this
  · rename_i hw; rw [if_neg hw] at this; exact this

theorem wpAnyT_of_seq : ∀ (l : List Oper) (k : Nat) (listed : Array Bool) (a : Act) (w : World), (∀ j, l[j]? = ops[k + j]?) →
    Region.seqB md ops l.length k listed = true → wpSeqT P ops Q S n k l a w → wpAnyT P md ops Q S n l.length listed a w
  | [], _, _, _, _, _, hB, h => ⟨by simpa [Region.seqB] using hB, h⟩
  | o :: l, k, listed, a, w, hl, hB, h => by
    have h0 : ops[k]? = some o := by simpa using (hl 0).symm
    simp only [List.length_cons, Region.seqB, Bool.and_eq_true, decide_eq_true_eq] at hB
    refine ⟨fun h1 => (by rw [hB.1] at h1; cases h1), fun i hi => ?_⟩
    rw [hB.1] at hi
    have hik : i = k := by simpa using hi
    subst hik
    unfold wpOp
    simp only [h0]
    unfold wpSeqT at h
    have next : ∀ a' w', wpSeqT P ops Q S n (i + 1) l a' w' → wpAnyT P md ops Q S n l.length (listed.setIfInBounds i true) a' w' := fun a' w' h' =>
      wpAnyT_of_seq l (i + 1) _ a' w' (fun j => by have := hl (j + 1); simpa [Nat.add_assoc, Nat.add_comm 1 j] using this) hB.2 h'
    split
    · rename_i hw
      rw [if_pos hw] at h
      exact h.imp (Oper.wp_mono (fun a' w' h' => ⟨h'.1, next a' w' h'.2⟩)) id
    · rename_i hw
      rw [if_neg hw] at h
      exact ⟨h.1, next _ _ h.2⟩

theorem wpAnyT_lex {h g : Nat} {T : Act → Prop} {w : World} (hsel : Region.noSelect ops = true) (hs : Region.sinkB md ops n = true) (hc : Region.chainB md ops n = true) (hn : n < ops.size) (hh : h ≤ n) (hS : S w)
    (hT : ∀ listed a, Region.seqB md ops g h listed = true → T a → wpAnyT P md ops Q S n g listed a w) :
    ∀ (l : List Oper) (k : Nat) (listed : Array Bool) (a : Act), (∀ j, j < l.length → l[j]? = ops[k + j]?) → k + l.length = h → HeadInv md ops n listed →
    Region.lexHead md ops g l.length k listed = true → wpHeadS P ops Q S T l a → wpAnyT P md ops Q S n (l.length + g) listed a w
  | [], k, listed, a, _, hk, _, hB, hw => by
    have : k = h := by simpa using hk
    subst this
    simp only [List.length_nil, Nat.zero_add]
    exact hT listed a (by simpa [Region.lexHead] using hB) hw
  | o :: l, k, listed, a, hl, hk, inv, hB, hw => by
    have h0 : ops[k]? = some o := by simpa using (hl 0 (by simp)).symm
    simp only [List.length_cons, Region.lexHead, Bool.and_eq_true] at hB
    obtain ⟨⟨hr, hf⟩, hB'⟩ := hB
    have hkn : k < n := by simp only [List.length_cons] at hk; omega
    have hr' : k ∈ Region.ready md ops listed := by simpa using hr
    obtain ⟨v, hy, hQ, hK⟩ := hw
    have := wpAnyT_first h0 (Region.noSelect_spec hsel) hs hc hn hkn hQ (l.length + g) listed a w inv (Region.free_spec h0 hf) hr' hy hS
      (wpAnyT_lex hsel hs hc hn hh hS hT l (k + 1) _ _ (fun j hj => by have := hl (j + 1) (by simp; omega); simpa [Nat.add_assoc, Nat.add_comm 1 j] using this) (by simp only [List.length_cons] at hk; omega) (inv.set hr' hkn) hB' hK)
    rw [List.length_cons, show l.length + 1 + g = l.length + g + 1 by omega]
    exact this

def mixB (ops : Array Oper) (h n : Nat) : Bool :=
  Region.noSelect ops && decide (n < ops.size) && decide (h ≤ n) && Region.sinkB .any ops n && Region.chainB .any ops n && Region.lexHead .any ops (ops.size - h) h 0 (Array.replicate ops.size false)

theorem wpAny_mix {a : Act} {w : World} {l : List Oper} (h n : Nat) (hB : mixB l.toArray h n = true) (S : World → Prop) (hS : S w)
    (hw : wpHeadS P l.toArray Q S (fun a' => wpSeqT P l.toArray Q S n h (l.drop h) a' w) (l.take h) a) : wpAny P .any l.toArray Q l.toArray.size (Array.replicate l.toArray.size false) a w := by
  simp only [mixB, Bool.and_eq_true, decide_eq_true_eq] at hB
  obtain ⟨⟨⟨⟨⟨hsel, hn⟩, hh⟩, hs⟩, hc⟩, hlex⟩ := hB
  have hn' : n < l.length := by simpa using hn
  have htl : (l.take h).length = h := by simp; omega
  have hdl : (l.drop h).length = l.toArray.size - h := by simp
  have inv0 : HeadInv .any l.toArray n (Array.replicate l.toArray.size false) :=
    ⟨by simp, fun j oj _ hl => (by rw [getD_replicate_false] at hl; cases hl), fun t _ ht => getD_in (by simpa using ht) (getD_replicate_false _ _)⟩
  have H := wpAnyT_lex (md := .any) (g := l.toArray.size - h) (n := n) (T := fun a' => wpSeqT P l.toArray Q S n h (l.drop h) a' w) (w := w) hsel hs hc hn hh hS
    (fun listed a' hq ht => by
      have := wpAnyT_of_seq (md := .any) (l.drop h) h listed a' w (fun j => by simp [List.getElem?_drop]) (by rw [hdl]; exact hq) ht
      rwa [hdl] at this) (l.take h) 0 _ a (fun j hj => by
    have hj' : j < h := by rw [htl] at hj; exact hj
    simp [hj']) (by simpa using htl) inv0 (by rw [htl]; exact hlex) hw
  rw [htl, show h + (l.toArray.size - h) = l.toArray.size by simp; omega] at H
  exact wpAny_of_T _ _ _ _ H

/-- In a round of a range over a function. -/
theorem wpIn_region_mix {l0 m id : Nat} {a : Act} {w : World} {l : List Oper} (h n : Nat) (hm : P.follows .mixedOrders = true) (hd : noDefer l.toArray = true) (hQ : ¬ LetsOut Q) (hB : mixB l.toArray h n = true) (S : World → Prop) (hS : S w.drew)
    (hw : wpHeadS P l.toArray Q S (fun a' => wpSeqT P l.toArray Q S n h (l.drop h) a' w.drew) (l.take h) a) : (Code.region id l.toArray true).wpIn (Fence.wide.inRound l0) m P Q a w :=
  wpIn_region_any hm (wpAny_inRound hd hQ _ _ _ _ (wpAny_mix h n hB S hS hw))

/-- In a plain frame. -/
theorem wp_region_mix {id : Nat} {a : Act} {w : World} {l : List Oper} (h n : Nat) (hm : P.follows .mixedOrders = true) (hB : mixB l.toArray h n = true) (S : World → Prop) (hS : S w.drew)
    (hw : wpHeadS P l.toArray Q S (fun a' => wpSeqT P l.toArray Q S n h (l.drop h) a' w.drew) (l.take h) a) : (Code.region id l.toArray true).wp P Q a w :=
  wp_region_any hm (wpAny_mix h n hB S hS hw)

end
end Go.Proofs.Ytjnkajdfdhockaa
