/-
  What the walk of CachemetaCrash holds: in memory, and in plain terms.
-/
import Derived.Test.YtpiffapnbjnjiaaLawPutsA32
import Derived.Test.YtpiffapnbjnjiaaMetaRD
import Derived.Test.YtpiffapnbjnjiaaDiskS
namespace Go.Proofs.Ytpiffapnbjnjiaa
set_option linter.unusedVariables false
open Go.RowKit

/-- A row of slots that is read alone. -/
structure Rw where
  rb : Nat
  ro : Nat
  cap : Nat
  xs : List Sl
def Rw.v (r : Rw) : Value := .slice (some ⟨r.rb, r.ro, none⟩) r.xs.length r.cap

/-- Where it lies. -/
structure RwAt (w : World) (lo bs : Nat) (Fc : Nat → Prop) (r : Rw) : Prop where
  rd : Reads w (some ⟨r.rb, r.ro, none⟩) (scs r.xs)
  ne : r.xs ≠ []
  cl : r.xs.length ≤ r.cap
  ap : ¬ Fc r.rb
  lo : lo < r.rb
  ab : r.rb ≠ bs

theorem RwAt.lt {w : World} {lo bs : Nat} {Fc : Nat → Prop} {r : Rw} (h : RwAt w lo bs Fc r) : r.rb < w.heap.size := by
  have hl : (scs r.xs).length ≠ 0 := by
    rw [scs_length]
    have := List.length_pos_iff.2 h.ne
    omega
  obtain ⟨b, off, e, hb, _⟩ := h.rd hl
  injection e with e
  injection e with e
  rw [e]
  exact hb
theorem Reads.fr {w w' : World} {b off : Nat} {xs : List Value} {G : Nat → Prop} (h : Reads w (some ⟨b, off, none⟩) xs) (hf : Fr G w w') (hn : ¬ G b) : Reads w' (some ⟨b, off, none⟩) xs := by
  intro hl
  obtain ⟨b', off', e, hb, hc⟩ := h hl
  injection e with e
  injection e with e1 e2
  subst e1
  subst e2
  exact ⟨b, off, rfl, Nat.lt_of_lt_of_le hb hf.size, fun i v hv => (hf.cell hb hn).trans (hc i v hv)⟩
theorem RwAt.fr {w w' : World} {lo bs : Nat} {Fc G : Nat → Prop} {r : Rw} (h : RwAt w lo bs Fc r) (hf : Fr G w w') (hn : ¬ G r.rb) : RwAt w' lo bs Fc r := ⟨h.rd.fr hf hn, h.ne, h.cl, h.ap, h.lo, h.ab⟩

/-- The last slot of a row alone. -/
theorem RwAt.last {w : World} {lo bs : Nat} {Fc : Nat → Prop} {r : Rw} (h : RwAt w lo bs Fc r) (s : Sl) (hs : r.xs.getLast? = some s) : RwAt w lo bs Fc ⟨r.rb, r.ro + (r.xs.length - 1) * 4, r.cap - (r.xs.length - 1), [s]⟩ := by
  have hp := List.length_pos_iff.2 h.ne
  have hcl := h.cl
  refine ⟨?_, by simp, by show 1 ≤ r.cap - (r.xs.length - 1); omega, h.ap, h.lo, h.ab⟩
  obtain ⟨b, off, e, hb, hc⟩ := h.rd (by rw [scs_length]; omega)
  injection e with e
  injection e with e1 e2
  rw [← e1, ← e2] at hc
  rw [← e1] at hb
  rw [List.getLast?_eq_getElem?] at hs
  obtain ⟨t0, t1, t2, t3⟩ := scs_at r.xs (r.xs.length - 1) s hs
  intro _
  refine ⟨r.rb, r.ro + (r.xs.length - 1) * 4, rfl, hb, fun i v hv => ?_⟩
  have hsc : scs [s] = s.cells := by simp [scs]
  rw [hsc] at hv
  rw [Nat.add_assoc]
  rcases i with _ | _ | _ | _ | i
  · simp [Sl.cells] at hv; subst hv; exact hc _ _ t0
  · simp [Sl.cells] at hv; subst hv; exact hc _ _ t1
  · simp [Sl.cells] at hv; subst hv; exact hc _ _ t2
  · simp [Sl.cells] at hv; subst hv; exact hc _ _ t3
  · simp [Sl.cells] at hv

/-- What the walk of CachemetaCrash holds: the source, the cache (disk: now, dur, log, fuse, down; slots: ss), the rows of slots (rs; tl: what is not yet made of them). -/
structure CR (W wx : World) (g sp m n bs : Nat) (Fc : Nat → Prop) (now dur : List Nat) (log : List (Nat × Nat × Nat)) (fuse : Int) (down : Bool) (wr : Int) (ss : List Sl) (rs : List Rw) (tl : List Value) : Prop where
  src : SrcAt wx W.heap.size
  bel : Below W.heap.size W wx
  ca : CacheAt wx Fc g sp m (n + 1) (one now dur log fuse down wr) ss 2 2 true
  tab : Cs wx bs 39 (rs.map Rw.v ++ tl).toArray
  rows : ∀ r ∈ rs, RwAt wx W.heap.size bs Fc r
  apb : ¬ Fc bs
  bsl : W.heap.size < bs
  lo : ∀ j, Fc j → W.heap.size < j

section
variable {W wx : World} {g sp m n bs : Nat} {Fc : Nat → Prop} {now dur : List Nat} {log : List (Nat × Nat × Nat)} {fuse : Int} {down : Bool} {wr : Int} {ss : List Sl} {rs : List Rw} {tl : List Value}

theorem CR.fr (h : CR W wx g sp m n bs Fc now dur log fuse down wr ss rs tl) {wy : World} {G : Nat → Prop} (hf : Fr G wx wy) (hs : SrcAt wy W.heap.size) (h0 : ∀ j, G j → W.heap.size ≤ j) (hb : ¬ G bs) (hr : ∀ r ∈ rs, ¬ G r.rb) (hF : ∀ j, Fc j → ¬ G j) :
    CR W wy g sp m n bs Fc now dur log fuse down wr ss rs tl := by
  obtain ⟨h1, h2, ca, tab, ro, ab, bl, lo⟩ := h
  exact ⟨hs, h2.trans (hf.below h2.size h0), ca.fr hf hF, tab.fr hf hb, fun r hr' => (ro r hr').fr hf (hr r hr'), ab, bl, lo⟩
theorem CR.keep (h : CR W wx g sp m n bs Fc now dur log fuse down wr ss rs tl) {wy : World} (hb : Below wx.heap.size wx wy) : CR W wy g sp m n bs Fc now dur log fuse down wr ss rs tl :=
  h.fr (G := fun _ => False) (Fr.of_below hb) (h.src.keep hb) (fun _ h => h.elim) (fun h => h) (fun _ _ h => h) (fun _ _ h => h)
theorem CR.drew (h : CR W wx g sp m n bs Fc now dur log fuse down wr ss rs tl) : CR W wx.drew g sp m n bs Fc now dur log fuse down wr ss rs tl := h.keep (Below.refl _ _).drew
theorem CR.grown (h : CR W wx g sp m n bs Fc now dur log fuse down wr ss rs tl) {wy : World} (hs : SrcAt wy W.heap.size) (hg : wx.grownBy wy (some W.heap.size)) : CR W wy g sp m n bs Fc now dur log fuse down wr ss rs tl := by
  refine h.fr (Fr.of_grown hg) hs (fun j hj => by omega) (fun e => ?_) (fun r hr e => ?_) (fun j hj e => ?_)
  · have := h.bsl; omega
  · have := (h.rows r hr).lo; omega
  · have := h.lo j hj; omega
theorem CR.tight (h : CR W wx g sp m n bs Fc now dur log fuse down wr ss rs tl) : CR W wx g sp m n bs (fun j => Fc j ∧ j < wx.heap.size) now dur log fuse down wr ss rs tl :=
  ⟨h.src, h.bel, h.ca.tight, h.tab, fun r hr => let q := h.rows r hr; ⟨q.rd, q.ne, q.cl, fun e => q.ap e.1, q.lo, q.ab⟩, fun e => h.apb e.1, h.bsl, fun j hj => h.lo j hj.1⟩
/-- The cache has done something. -/
theorem CR.turn (h : CR W wx g sp m n bs Fc now dur log fuse down wr ss rs tl) {wy : World} {Fc' : Nat → Prop} {now' dur' : List Nat} {log' : List (Nat × Nat × Nat)} {fuse' : Int} {down' : Bool} {wr' : Int} {ss' : List Sl}
    (hc : CacheAt wy Fc' g sp m (n + 1) (one now' dur' log' fuse' down' wr') ss' 2 2 true) (ht : Turn Fc Fc' wx wy) : CR W wy g sp m n bs Fc' now' dur' log' fuse' down' wr' ss' rs tl := by
  refine ⟨h.src.fr ht.1 h.lo, h.bel.trans (ht.1.below h.bel.size (fun j hj => Nat.le_of_lt (h.lo j hj))), hc, h.tab.fr ht.1 h.apb, fun r hr => ?_, ht.out h.tab.lt h.apb, h.bsl, ?_⟩
  · have q := h.rows r hr
    have q2 := q.fr ht.1 q.ap
    exact ⟨q2.rd, q2.ne, q2.cl, ht.out q.lt q.ap, q2.lo, q2.ab⟩
  · intro j hj
    rcases ht.2 j hj with h1 | h1
    · exact h.lo j h1
    · have := h.src.lt
      have := h.bel.size
      have := h.bsl
      have := h.tab.lt
      omega
/-- The fuse is set. -/
theorem CR.ref (h : CR W wx g sp m n bs Fc now dur log fuse down wr ss rs tl) : ∃ FF AA cc, CacheIn wx FF Fc g sp m (n + 1) (one now dur log fuse down wr) ss AA cc 2 2 true := h.ca
theorem CR.fused (h : CR W wx g sp m n bs Fc now dur log fuse down wr ss rs tl) {wy : World} {FF : Nat → Prop} {AA : Option Addr} {cc : Nat} (hci : CacheIn wx FF Fc g sp m (n + 1) (one now dur log fuse down wr) ss AA cc 2 2 true) {f : Int}
    (hd : DskAt wy FF g { one now dur log fuse down wr with fuse := f }) (hf : Fr FF wx wy) : ∃ Fc', CR W wy g sp m n bs Fc' now dur log f down wr ss rs tl :=
  have ht : Turn FF FF wx wy := ⟨hf, fun j h => .inl h⟩
  ⟨_, h.turn (fuse' := f) ⟨FF, AA, cc, hci.turn hd ht⟩ (turn_wide hci.inF ht)⟩
/-- A row is stored. -/
theorem CR.store (h : CR W wx g sp m n bs Fc now dur log fuse down wr ss rs tl) (k : Nat) (r : Rw) (hr : RwAt wx W.heap.size bs Fc r) (rs' : List Rw) (tl' : List Value) (he : (rs.map Rw.v ++ tl).set k r.v = rs'.map Rw.v ++ tl') (hm : ∀ q ∈ rs', q ∈ rs ∨ q = r) :
    CR W (wx.setCell ⟨bs, k, none⟩ r.v) g sp m n bs Fc now dur log fuse down wr ss rs' tl' := by
  have hf := fr_set wx bs k r.v
  have hm2 : Cs (wx.setCell ⟨bs, k, none⟩ r.v) bs 39 (rs'.map Rw.v ++ tl').toArray := by
    rw [← he]
    have := heap_setCell_same wx bs k _ _ r.v h.tab
    rwa [List.setIfInBounds_toArray] at this
  have hb := h.bsl
  obtain ⟨h1, h2, ca, tab, ro, ab, bl, lo⟩ := h
  refine ⟨h1.set hb _, h2.trans ((Fr.refl (fun j => j = bs) wx).set (b := bs) (.inl rfl) r.v |>.below h2.size (fun j hj => by omega)), ca.fr hf (fun j hj e => ab (e ▸ hj)), hm2, ?_, ab, bl, lo⟩
  intro q hq
  rcases hm q hq with hq | rfl
  · exact (ro q hq).fr hf (ro q hq).ab
  · exact hr.fr hf hr.ab
theorem CR.set_ (h : CR W wx g sp m n bs Fc now dur log fuse down wr ss rs []) (k : Nat) (r : Rw) (hr : RwAt wx W.heap.size bs Fc r) : CR W (wx.setCell ⟨bs, k, none⟩ r.v) g sp m n bs Fc now dur log fuse down wr ss (rs.set k r) [] :=
  h.store k r hr _ _ (by rw [List.append_nil, List.append_nil, List.map_set]) (fun q hq => List.mem_or_eq_of_mem_set hq)
theorem CR.push {x : Value} (h : CR W wx g sp m n bs Fc now dur log fuse down wr ss rs (x :: tl)) (k : Nat) (hk : rs.length = k) (r : Rw) (hr : RwAt wx W.heap.size bs Fc r) : CR W (wx.setCell ⟨bs, k, none⟩ r.v) g sp m n bs Fc now dur log fuse down wr ss (rs ++ [r]) tl := by
  refine h.store k r hr _ _ ?_ (fun q hq => by simpa using hq)
  subst hk
  rw [List.map_append, List.append_assoc, List.set_append_right _ _ (by simp)]
  simp
theorem CR.cell (h : CR W wx g sp m n bs Fc now dur log fuse down wr ss rs tl) (k : Nat) (r : Rw) (hr : rs[k]? = some r) : wx.cell? ⟨bs, k, none⟩ = some (.slice (some ⟨r.rb, r.ro, none⟩) r.xs.length r.cap) := by
  have hk : k < rs.length := (List.getElem?_eq_some_iff.1 hr).1
  rw [h.tab.cell k, List.getElem?_toArray, List.getElem?_append_left (by simpa using hk), List.getElem?_map, hr]
  rfl
end

/-- What holds of words and rows, in plain terms. -/
structure PI (n : Nat) (now dur : List Nat) (log : List (Nat × Nat × Nat)) (ss : List Sl) (rs : List Rw) : Prop where
  nl : now.length = n + 1
  syn : Syn now dur log
  sl : ss.length = n
  rl : rs.length = n
  h0 : now[0]?.getD 0 = hdI n 2 2 true
  d0 : dur[0]?.getD 0 = hdI n 2 2 true
  nw : ∀ (k : Nat) (s : Sl), ss[k]? = some s → now[1 + k]?.getD 0 = s.word
  last : ∀ (k : Nat) (r : Rw) (s : Sl), rs[k]? = some r → ss[k]? = some s → r.xs.getLast? = some s
  good : ∀ (k : Nat) (r : Rw), rs[k]? = some r → ∀ s ∈ r.xs, s.Good ∧ (s.valid = true → s.block % 10 = (k : Int))
  du : ∀ (k : Nat) (r : Rw), rs[k]? = some r → ∃ s ∈ r.xs, dur[1 + k]?.getD 0 = s.word
  lg : ∀ q ∈ log, ∃ (k : Nat) (r : Rw), q.2.1 = 1 + k ∧ rs[k]? = some r ∧ ∃ s ∈ r.xs, q.2.2 = s.word

theorem PI.ats {n : Nat} {now dur : List Nat} {log : List (Nat × Nat × Nat)} {ss : List Sl} {rs : List Rw} (h : PI n now dur log ss rs) (k : Nat) (hk : k < n) : ∃ r s, rs[k]? = some r ∧ ss[k]? = some s ∧ r.xs.getLast? = some s := by
  have h1 := List.getElem?_eq_getElem (l := rs) (i := k) (by rw [h.rl]; exact hk)
  have h2 := List.getElem?_eq_getElem (l := ss) (i := k) (by rw [h.sl]; exact hk)
  exact ⟨_, _, h1, h2, h.last k _ _ h1 h2⟩

theorem PI.put {n : Nat} {now dur : List Nat} {log : List (Nat × Nat × Nat)} {ss : List Sl} {rs : List Rw} (h : PI n now dur log ss rs) (k : Nat) (hk : k < n) (y : Sl) (hy : y.Good) (hyb : y.valid = true → y.block % 10 = (k : Int)) (r r' : Rw) (hr : rs[k]? = some r) (hr' : r'.xs = r.xs ++ [y]) :
    PI n (now.set (1 + k) y.word) dur (log ++ [(0, 1 + k, y.word)]) (ss.set k y) (rs.set k r') := by
  have hkr : k < rs.length := by rw [h.rl]; exact hk
  have hks : k < ss.length := by rw [h.sl]; exact hk
  refine ⟨by rw [List.length_set]; exact h.nl, h.syn.set _ _, by rw [List.length_set]; exact h.sl, by rw [List.length_set]; exact h.rl, ?_, h.d0, ?_, ?_, ?_, ?_, ?_⟩
  · rw [List.getElem?_set_ne (by omega)]; exact h.h0
  · intro j s hs
    by_cases e : j = k
    · subst e
      rw [List.getElem?_set_self hks] at hs
      injection hs with hs
      rw [List.getElem?_set_self (by rw [h.nl]; omega), hs]
      rfl
    · rw [List.getElem?_set_ne (fun e' => e e'.symm)] at hs
      rw [List.getElem?_set_ne (by omega)]
      exact h.nw j s hs
  · intro j q s hq hs
    by_cases e : j = k
    · subst e
      rw [List.getElem?_set_self hks] at hs
      rw [List.getElem?_set_self hkr] at hq
      injection hs with hs
      injection hq with hq
      rw [← hq, hr', hs]
      simp
    · rw [List.getElem?_set_ne (fun e' => e e'.symm)] at hs hq
      exact h.last j q s hq hs
  · intro j q hq s hs
    by_cases e : j = k
    · subst e
      rw [List.getElem?_set_self hkr] at hq
      injection hq with hq
      rw [← hq, hr'] at hs
      rcases List.mem_append.1 hs with hs | hs
      · exact h.good j r hr s hs
      · rw [List.mem_singleton.1 hs]; exact ⟨hy, hyb⟩
    · rw [List.getElem?_set_ne (fun e' => e e'.symm)] at hq
      exact h.good j q hq s hs
  · intro j q hq
    by_cases e : j = k
    · subst e
      rw [List.getElem?_set_self hkr] at hq
      injection hq with hq
      obtain ⟨s, hs, he⟩ := h.du j r hr
      exact ⟨s, by rw [← hq, hr']; exact List.mem_append.2 (.inl hs), he⟩
    · rw [List.getElem?_set_ne (fun e' => e e'.symm)] at hq
      exact h.du j q hq
  · intro q hq
    rcases List.mem_append.1 hq with hq | hq
    · obtain ⟨j, p, e1, hp, s, hs, e2⟩ := h.lg q hq
      by_cases e : j = k
      · subst e
        refine ⟨j, r', e1, by rw [List.getElem?_set_self hkr], s, ?_, e2⟩
        rw [hr] at hp
        injection hp with hp
        rw [hr', hp]
        exact List.mem_append.2 (.inl hs)
      · exact ⟨j, p, e1, by rw [List.getElem?_set_ne (fun e' => e e'.symm)]; exact hp, s, hs, e2⟩
    · rw [List.mem_singleton.1 hq]
      exact ⟨k, r', rfl, by rw [List.getElem?_set_self hkr], y, by rw [hr']; simp, rfl⟩

theorem PI.flush {n : Nat} {now dur : List Nat} {log : List (Nat × Nat × Nat)} {ss : List Sl} {rs : List Rw} (h : PI n now dur log ss rs) : PI n now now [] ss rs := by
  refine ⟨h.nl, Syn.refl _, h.sl, h.rl, h.h0, h.h0, h.nw, h.last, h.good, ?_, by simp⟩
  intro k r hr
  have hk : k < n := by rw [← h.rl]; exact (List.getElem?_eq_some_iff.1 hr).1
  obtain ⟨r', s, hr2, hs, hl⟩ := h.ats k hk
  rw [hr] at hr2
  injection hr2 with hr2
  rw [hr2]
  exact ⟨s, List.mem_of_getLast? hl, h.nw k s hs⟩
theorem PI.cut {n : Nat} {now : List Nat} {ss : List Sl} {rs : List Rw} (h : PI n now now [] ss rs) (k : Nat) (r r' : Rw) (s : Sl) (hr : rs[k]? = some r) (hs : ss[k]? = some s) (hr' : r'.xs = [s]) : PI n now now [] ss (rs.set k r') := by
  have hkr : k < rs.length := (List.getElem?_eq_some_iff.1 hr).1
  have hsm : s ∈ r.xs := List.mem_of_getLast? (h.last k r s hr hs)
  refine ⟨h.nl, h.syn, h.sl, by rw [List.length_set]; exact h.rl, h.h0, h.d0, h.nw, ?_, ?_, ?_, by simp⟩
  · intro j q t hq ht
    by_cases e : j = k
    · subst e
      rw [List.getElem?_set_self hkr] at hq
      injection hq with hq
      rw [hs] at ht
      injection ht with ht
      rw [← hq, hr', ht]
      rfl
    · rw [List.getElem?_set_ne (fun e' => e e'.symm)] at hq
      exact h.last j q t hq ht
  · intro j q hq t ht
    by_cases e : j = k
    · subst e
      rw [List.getElem?_set_self hkr] at hq
      injection hq with hq
      rw [← hq, hr'] at ht
      rw [List.mem_singleton.1 ht]
      exact h.good j r hr s hsm
    · rw [List.getElem?_set_ne (fun e' => e e'.symm)] at hq
      exact h.good j q hq t ht
  · intro j q hq
    by_cases e : j = k
    · subst e
      rw [List.getElem?_set_self hkr] at hq
      injection hq with hq
      exact ⟨s, by rw [← hq, hr']; simp, h.nw j s hs⟩
    · rw [List.getElem?_set_ne (fun e' => e e'.symm)] at hq
      exact h.du j q hq

theorem PI.start (n : Nat) (now : List Nat) (hl : now.length = n + 1) (h0 : now[0]?.getD 0 = hdI n 2 2 true) (hz : ∀ j, j < n → now[1 + j]?.getD 0 = 0) (rs : List Rw) (hrl : rs.length = n) (hrx : ∀ r ∈ rs, r.xs = [Sl.nil]) : PI n now now [] (List.replicate n Sl.nil) rs := by
  have hw : Sl.nil.word = 0 := rfl
  refine ⟨hl, Syn.refl _, List.length_replicate, hrl, h0, h0, ?_, ?_, ?_, ?_, by simp⟩
  · intro k s hs
    have hk := (List.getElem?_eq_some_iff.1 hs).1
    rw [List.length_replicate] at hk
    rw [List.getElem?_replicate, if_pos hk] at hs
    injection hs with hs
    rw [hz k hk, ← hs, hw]
  · intro k r s hr hs
    have hk := (List.getElem?_eq_some_iff.1 hs).1
    rw [List.length_replicate] at hk
    rw [List.getElem?_replicate, if_pos hk] at hs
    injection hs with hs
    rw [hrx r (List.mem_of_getElem? hr), ← hs]
    rfl
  · intro k r hr s hs
    rw [hrx r (List.mem_of_getElem? hr)] at hs
    rw [List.mem_singleton.1 hs]
    exact ⟨⟨by decide, by decide, rfl, fun _ => ⟨rfl, rfl⟩⟩, fun h => by cases h⟩
  · intro k r hr
    have hk := (List.getElem?_eq_some_iff.1 hr).1
    rw [hrl] at hk
    exact ⟨Sl.nil, by rw [hrx r (List.mem_of_getElem? hr)]; simp, by rw [hz k hk, hw]⟩

theorem pick_list {α : Type} (n : Nat) (p : Nat → α → Prop) (h : ∀ k, k < n → ∃ a, p k a) : ∃ l : List α, l.length = n ∧ ∀ k a, l[k]? = some a → p k a := by
  induction n with
  | zero => exact ⟨[], rfl, by simp⟩
  | succ n ih =>
    obtain ⟨l, hl, hp⟩ := ih (fun k hk => h k (by omega))
    obtain ⟨a, ha⟩ := h n (by omega)
    refine ⟨l ++ [a], by rw [List.length_append, hl]; rfl, fun k b hb => ?_⟩
    by_cases e : k < n
    · rw [List.getElem?_append_left (by omega)] at hb
      exact hp k b hb
    · have hk := (List.getElem?_eq_some_iff.1 hb).1
      rw [List.length_append, hl] at hk
      simp at hk
      have : k = n := by omega
      subst this
      rw [List.getElem?_append_right (by omega), hl] at hb
      simp at hb
      rw [← hb]
      exact ha

/-- What Open finds behind a power failure. -/
theorem PI.crash {n : Nat} {now dur : List Nat} {log : List (Nat × Nat × Nat)} {ss : List Sl} {rs : List Rw} (h : PI n now dur log ss rs) (hn : 1 ≤ n ∧ n ≤ 4) (bs : List Bool) (d : List Nat) (hd : rsDur dur log bs log.length = d) :
    openE d = 0 ∧ d.length = n + 1 ∧ d[0]?.getD 0 = hdI n 2 2 true ∧ ∃ ss' : List Sl, slotsU d n = ss' ∧ ss'.length = n ∧ ∀ (k : Nat) (s : Sl), ss'[k]? = some s → ∃ r, rs[k]? = some r ∧ s ∈ r.xs := by
  have hlen : d.length = n + 1 := by rw [← hd, rsDur_length, h.syn.len, h.nl]
  have hd0 : d[0]?.getD 0 = hdI n 2 2 true := by
    rcases rsDur_at dur log bs log.length 0 (Nat.le_refl _) with e | ⟨q, hq, e1, e2⟩
    · rw [hd] at e; rw [e]; exact h.d0
    · obtain ⟨k, r, e3, _⟩ := h.lg q hq
      omega
  have hds : ∀ k, k < n → ∃ s, (∃ r, rs[k]? = some r ∧ s ∈ r.xs) ∧ d[1 + k]?.getD 0 = s.word := by
    intro k hk
    have hr := List.getElem?_eq_getElem (l := rs) (i := k) (by rw [h.rl]; exact hk)
    rcases rsDur_at dur log bs log.length (1 + k) (Nat.le_refl _) with e | ⟨q, hq, e1, e2⟩
    · obtain ⟨s, hs, e3⟩ := h.du k _ hr
      exact ⟨s, ⟨_, hr, hs⟩, by rw [← hd, e]; exact e3⟩
    · obtain ⟨j, r, e3, hr2, s, hs, e4⟩ := h.lg q hq
      obtain rfl : j = k := by omega
      exact ⟨s, ⟨r, hr2, hs⟩, by rw [← hd, e2, e4]; rfl⟩
  obtain ⟨ss', hl', hp⟩ := pick_list n _ hds
  have hg : ∀ s ∈ ss', s.Good := by
    intro s hs
    obtain ⟨k, hk, e⟩ := List.getElem_of_mem hs
    obtain ⟨⟨r, hr, hm⟩, _⟩ := hp k s (by rw [List.getElem?_eq_getElem hk, e])
    exact (h.good k r hr s hm).1
  obtain ⟨a1, a2, a3⟩ := allOk_words d ss' (fun i s hs => (hp i s hs).2) hg (by
    intro i j s t hij hs ht hsv htv e
    obtain ⟨⟨r, hr, hm⟩, _⟩ := hp i s hs
    obtain ⟨⟨r2, hr2, hm2⟩, _⟩ := hp j t ht
    have e1 := (h.good i r hr s hm).2 hsv
    have e2 := (h.good j r2 hr2 t hm2).2 htv
    rw [e] at e1
    omega) n (by omega)
  have ht : ss'.take n = ss' := by rw [← hl']; exact List.take_length
  rw [ht] at a2
  obtain ⟨f1, f2, f3, f4, f5, f6⟩ := hdI_fields n 2 2 true (by omega) (by omega) (by omega)
  refine ⟨?_, hlen, hd0, ss', a2, hl', fun k s hs => (hp k s hs).1⟩
  generalize hdI n 2 2 true = hw at *
  have hn1 : n + 1 ≤ d.length := by omega
  exact open_good d hw n d.length hd0 f1 f2 rfl (hbad_no hw n d.length f2 (by omega) hn1 (by omega) (by omega) f6) a1

end Go.Proofs.Ytpiffapnbjnjiaa
