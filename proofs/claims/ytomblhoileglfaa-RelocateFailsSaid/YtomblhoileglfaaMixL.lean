/-
  A region that draws its order, by two lists: the head's operations (any of those ahead of n, in a given order) yield the same values in every world that meets S; the rest is forced, in a given order; S holds till operation n.
-/
import Derived.Test.YtomblhoileglfaaGa
import Derived.OrdersHeld
import Derived.StillTail
namespace Go.Proofs.Ytomblhoileglfaa
set_option linter.unusedVariables false
open Go

section
variable {P : Program} {md : Region.Mode} {ops : Array Oper} {Q : Exit → Act → World → Prop} {S : World → Prop} {n : Nat}

/-- What follows, in the order of a list. -/
def wpSeqL (P : Program) (ops : Array Oper) (Q : Exit → Act → World → Prop) (S : World → Prop) (n : Nat) : List (Nat × Oper) → Act → World → Prop
  | [], a, w => Q .normal a w
  | o :: l, a, w => if Region.wanted o.2 (yielded ops a.tmps) = true then o.2.wp P a w (fun a' w' => (o.1 < n → S w') ∧ wpSeqL P ops Q S n l a' w') Q ∨ (o.2.asks P a w ∧ LetsOut Q) else (o.1 < n → S w) ∧ wpSeqL P ops Q S n l (a.put o.2.dst undef) w

theorem wpSeqL_list : ∀ (l : List (Nat × Oper)) (a : Act) (w : World), (∀ o ∈ l, n ≤ o.1) → wpList P ops Q (l.map Prod.snd) a w → wpSeqL P ops Q S n l a w
  | [], _, _, _, h => h
  | o :: l, a, w, hk, h => by
    have h1 : n ≤ o.1 := hk o List.mem_cons_self
    have h2 : ∀ p ∈ l, n ≤ p.1 := fun p hp => hk p (List.mem_cons_of_mem _ hp)
    unfold wpSeqL
    rw [List.map_cons] at h
    unfold wpList at h
    split
    · rename_i hw
      rw [if_pos hw] at h
      exact h.imp (Oper.wp_mono (fun a' w' h' => ⟨fun hh => absurd hh (by omega), wpSeqL_list l a' w' h2 h'⟩)) id
    · rename_i hw
      rw [if_neg hw] at h
      exact ⟨fun hh => absurd hh (by omega), wpSeqL_list l _ w h2 h⟩

theorem wpSeqL_step {k : Nat} {o : Oper} {l : List (Nat × Oper)} {a : Act} {w : World}
    (h : ∀ K : Act → World → Prop, (∀ a w, (k < n → S w) → wpSeqL P ops Q S n l a w → K a w) → if Region.wanted o (yielded ops a.tmps) = true then o.wp P a w K Q else K (a.put o.dst undef) w) : wpSeqL P ops Q S n ((k, o) :: l) a w := by
  have := h (fun a w => (k < n → S w) ∧ wpSeqL P ops Q S n l a w) (fun a w h1 h2 => ⟨h1, h2⟩)
  unfold wpSeqL
  split
  · rename_i hw; rw [if_pos hw] at this; exact .inl this
  · rename_i hw; rw [if_neg hw] at this; exact this

def seqLB (md : Region.Mode) (ops : Array Oper) : List Nat → Array Bool → Bool
  | [], listed => (Region.ready md ops listed).isEmpty
  | k :: l, listed => decide (Region.ready md ops listed = [k]) && seqLB md ops l (listed.setIfInBounds k true)

def headLB (md : Region.Mode) (ops : Array Oper) (n : Nat) (r : List Nat) : List Nat → Array Bool → Bool
  | [], listed => seqLB md ops r listed
  | k :: l, listed => decide (k < n) && (Region.ready md ops listed).contains k && Region.free md ops listed k && headLB md ops n r l (listed.setIfInBounds k true)

/-- The operations of the numbers of a list. -/
def pickL (ops : Array Oper) : List Nat → List (Nat × Oper)
  | [] => []
  | k :: l => match ops[k]? with
    | some o => (k, o) :: pickL ops l
    | none => []

theorem wpAnyT_of_seqL : ∀ (l : List Nat) (listed : Array Bool) (a : Act) (w : World), (∀ k ∈ l, k < ops.size) →
    seqLB md ops l listed = true → wpSeqL P ops Q S n (pickL ops l) a w → wpAnyT P md ops Q S n l.length listed a w
  | [], _, _, _, _, hB, h => ⟨by simpa [seqLB] using hB, h⟩
  | k :: l, listed, a, w, hl, hB, h => by
    have hk := hl k List.mem_cons_self
    have h0 : ops[k]? = some ops[k] := Array.getElem?_eq_getElem hk
    simp only [seqLB, Bool.and_eq_true, decide_eq_true_eq] at hB
    refine ⟨fun h1 => (by rw [hB.1] at h1; cases h1), fun i hi => ?_⟩
    rw [hB.1] at hi
    have hik : i = k := by simpa using hi
    subst hik
    unfold wpOp
    simp only [h0]
    simp only [pickL, h0] at h
    unfold wpSeqL at h
    have next : ∀ a' w', wpSeqL P ops Q S n (pickL ops l) a' w' → wpAnyT P md ops Q S n l.length (listed.setIfInBounds i true) a' w' := fun a' w' h' =>
      wpAnyT_of_seqL l _ a' w' (fun j hj => hl j (List.mem_cons_of_mem _ hj)) hB.2 h'
    split
    · rename_i hw
      rw [if_pos hw] at h
      exact h.imp (Oper.wp_mono (fun a' w' h' => ⟨h'.1, next a' w' h'.2⟩)) id
    · rename_i hw
      rw [if_neg hw] at h
      exact ⟨h.1, next _ _ h.2⟩

theorem wpAnyT_headL {r : List Nat} {T : Act → Prop} {w : World} (hsel : Region.noSelect ops = true) (hs : Region.sinkB md ops n = true) (hc : Region.chainB md ops n = true) (hn : n < ops.size) (hS : S w)
    (hT : ∀ listed a, seqLB md ops r listed = true → T a → wpAnyT P md ops Q S n r.length listed a w) :
    ∀ (l : List Nat) (listed : Array Bool) (a : Act), HeadInv md ops n listed →
    headLB md ops n r l listed = true → wpHeadS P ops Q S T ((pickL ops l).map Prod.snd) a → wpAnyT P md ops Q S n (l.length + r.length) listed a w
  | [], listed, a, _, hB, hw => by
    rw [List.length_nil, Nat.zero_add]
    exact hT listed a hB hw
  | k :: l, listed, a, inv, hB, hw => by
    simp only [headLB, Bool.and_eq_true, decide_eq_true_eq] at hB
    obtain ⟨⟨⟨hkn, hr⟩, hf⟩, hB'⟩ := hB
    have h0 : ops[k]? = some ops[k] := Array.getElem?_eq_getElem (by omega)
    have hr' : k ∈ Region.ready md ops listed := by simpa using hr
    simp only [pickL, h0, List.map_cons] at hw
    obtain ⟨v, hy, hQ, hK⟩ := hw
    have := wpAnyT_first h0 (Region.noSelect_spec hsel) hs hc hn hkn hQ (l.length + r.length) listed a w inv (Region.free_spec h0 hf) hr' hy hS
      (wpAnyT_headL hsel hs hc hn hS hT l _ _ (inv.set hr' hkn) hB' hK)
    rw [List.length_cons, show l.length + 1 + r.length = l.length + r.length + 1 by omega]
    exact this

def mixLB (ops : Array Oper) (h r : List Nat) (n : Nat) : Bool :=
  Region.noSelect ops && decide (n < ops.size) && decide (h.length + r.length = ops.size) && r.all (fun k => decide (k < ops.size)) && Region.sinkB .any ops n && Region.chainB .any ops n && headLB .any ops n r h (Array.replicate ops.size false)

/-- In a plain frame. -/
theorem wp_region_mixL {id : Nat} {a : Act} {w : World} {ops : Array Oper} (h r : List Nat) (n : Nat) (hm : P.follows .mixedOrders = true) (hB : mixLB ops h r n = true) (S : World → Prop) (hS : S w.drew)
    (hw : wpHeadS P ops Q S (fun a' => wpSeqL P ops Q S n (pickL ops r) a' w.drew) ((pickL ops h).map Prod.snd) a) : (Code.region id ops true).wp P Q a w := by
  simp only [mixLB, Bool.and_eq_true, decide_eq_true_eq, List.all_eq_true] at hB
  obtain ⟨⟨⟨⟨⟨⟨hsel, hn⟩, hlen⟩, hr⟩, hs⟩, hc⟩, hlex⟩ := hB
  have inv0 : HeadInv .any ops n (Array.replicate ops.size false) :=
    ⟨by simp, fun j oj _ hl => (by rw [getD_replicate_false] at hl; cases hl), fun t _ ht => getD_in (by simpa using ht) (getD_replicate_false _ _)⟩
  have H := wpAnyT_headL (md := .any) (n := n) (T := fun a' => wpSeqL P ops Q S n (pickL ops r) a' w.drew) (w := w.drew) hsel hs hc hn hS
    (fun listed a' hq ht => wpAnyT_of_seqL (md := .any) r listed a' w.drew hr hq ht) h _ a inv0 hlex hw
  rw [hlen] at H
  exact wp_region_any hm (wpAny_of_T _ _ _ _ H)

end
end Go.Proofs.Ytomblhoileglfaa
