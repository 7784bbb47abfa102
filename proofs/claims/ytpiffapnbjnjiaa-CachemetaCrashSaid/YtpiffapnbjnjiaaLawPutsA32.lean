/-
  What the walk of CachemetaPuts holds.
-/
import Derived.Test.YtpiffapnbjnjiaaLawOpens32
namespace Go.Proofs.Ytpiffapnbjnjiaa
set_option linter.unusedVariables false
open Go.RowKit

theorem OH.fr {W W' W'' : World} {b c n : Nat} {l : List Nat} {G : Nat → Prop} (h : OH W W' b c n l) (hf : Fr G W' W'') (hG : ∀ j, G j → W.heap.size < j) (hb : ¬ G b) : OH W W'' b c n l := by
  obtain ⟨h1, h2, h3, h4, h5⟩ := h
  refine ⟨h1.fr hf hG, h2.trans (hf.below h2.size (fun j hj => Nat.le_of_lt (hG j hj))), own_fr h3 hf ?_, h4, h5⟩
  intro b' hb'
  simp [Value.ownBlock] at hb'
  rw [← hb']
  exact hb

/-- What the walk of CachemetaPuts holds: the source and the words (l), the cache (disk: now, dur, log; slots: ss), what the reference holds of it (rs, rmode, rcl). -/
structure PS (W wx : World) (b cb N g sp m s4 K c3 : Nat) (A3 : Option Addr) (chunk : Int) (Fc : Nat → Prop) (l now dur : List Nat) (log : List (Nat × Nat × Nat)) (wr : Int) (ss rs : List Sl) (mode : Int) (op : Bool) (rmode : Int) (rcl : Bool) : Prop where
  oh : OH W wx b cb N l
  ca : CacheAt wx Fc g sp m N (one now dur log 0 false wr) ss chunk mode op
  meta_ : Cs wx s4 41 #[.slice A3 K c3, .int .i64 chunk, .int .i64 rmode, .bool rcl]
  row : wx.ownsRow (W.heap.size + 1) 50 4 (.slice A3 K c3) K (scs rs)
  apb : ¬ Fc b
  aps : ¬ Fc s4
  apr : ∀ b', (Value.slice A3 K c3).ownBlock = some b' → ¬ Fc b'
  lo : ∀ j, Fc j → W.heap.size < j
  los : W.heap.size < s4

section
variable {W wx : World} {b cb N g sp m s4 K c3 : Nat} {A3 : Option Addr} {chunk : Int} {Fc : Nat → Prop} {l now dur : List Nat} {log : List (Nat × Nat × Nat)} {wr : Int} {ss rs : List Sl} {mode : Int} {op : Bool} {rmode : Int} {rcl : Bool}

theorem PS.bl (h : PS W wx b cb N g sp m s4 K c3 A3 chunk Fc l now dur log wr ss rs mode op rmode rcl) : W.heap.size < b := by
  have := own_base h.oh.2.2.1 b rfl
  omega
theorem PS.bs (h : PS W wx b cb N g sp m s4 K c3 A3 chunk Fc l now dur log wr ss rs mode op rmode rcl) : b ≠ s4 := by
  intro e
  have h1 := h.oh.2.2.1
  rcases h1.2 with ⟨h2, _⟩ | ⟨g', cap, cur, h2, _, hb, _⟩
  · cases h2
  · injection h2 with h2
    injection h2 with h2
    injection h2 with h2
    have := h.meta_
    unfold Cs at this
    rw [← e, h2, hb] at this
    simp at this
theorem PS.rs_ (h : PS W wx b cb N g sp m s4 K c3 A3 chunk Fc l now dur log wr ss rs mode op rmode rcl) : ∀ b', (Value.slice A3 K c3).ownBlock = some b' → b' ≠ s4 := by
  intro b' hb' e
  have h1 := h.row
  rcases h1.2 with ⟨h2, _⟩ | ⟨g', cap, cur, h2, _, hb, _⟩
  · rw [h2] at hb'; cases hb'
  · rw [h2] at hb'
    simp [Value.ownBlock] at hb'
    have := h.meta_
    unfold Cs at this
    rw [← e, ← hb', hb] at this
    simp at this
theorem PS.rb (h : PS W wx b cb N g sp m s4 K c3 A3 chunk Fc l now dur log wr ss rs mode op rmode rcl) : ∀ b', (Value.slice A3 K c3).ownBlock = some b' → b' ≠ b := by
  intro b' hb' e
  rcases own_ne h.row h.oh.2.2.1 (by decide) with h1 | h1
  · rw [h1] at hb'; cases hb'
  · rw [hb', e] at h1
    exact h1 rfl
/-- A frame whose blocks are none of the walk's own. -/
theorem PS.fr (h : PS W wx b cb N g sp m s4 K c3 A3 chunk Fc l now dur log wr ss rs mode op rmode rcl) {wy : World} {G : Nat → Prop} (hf : Fr G wx wy) (hs : SrcAt wy W.heap.size) (h0 : ∀ j, G j → W.heap.size ≤ j) (hb : ¬ G b) (hs4 : ¬ G s4) (hr : ∀ b', (Value.slice A3 K c3).ownBlock = some b' → ¬ G b') (hF : ∀ j, Fc j → ¬ G j) :
    PS W wy b cb N g sp m s4 K c3 A3 chunk Fc l now dur log wr ss rs mode op rmode rcl := by
  obtain ⟨⟨h1, h2, h3, h4, h5⟩, ca, me, ro, ab, aq, ar, lo, los⟩ := h
  refine ⟨⟨hs, h2.trans (hf.below h2.size h0), own_fr h3 hf ?_, h4, h5⟩, ca.fr hf hF, me.fr hf hs4, own_fr ro hf hr, ab, aq, ar, lo, los⟩
  intro b' hb'
  simp [Value.ownBlock] at hb'
  rw [← hb']
  exact hb
theorem PS.keep (h : PS W wx b cb N g sp m s4 K c3 A3 chunk Fc l now dur log wr ss rs mode op rmode rcl) {wy : World} (hb : Below wx.heap.size wx wy) : PS W wy b cb N g sp m s4 K c3 A3 chunk Fc l now dur log wr ss rs mode op rmode rcl :=
  h.fr (G := fun _ => False) (Fr.of_below hb) (h.oh.1.keep hb) (fun _ h => h.elim) (fun h => h) (fun h => h) (fun _ _ h => h) (fun _ _ h => h)
theorem PS.drew (h : PS W wx b cb N g sp m s4 K c3 A3 chunk Fc l now dur log wr ss rs mode op rmode rcl) : PS W wx.drew b cb N g sp m s4 K c3 A3 chunk Fc l now dur log wr ss rs mode op rmode rcl := h.keep (Below.refl _ _).drew
theorem PS.grown (h : PS W wx b cb N g sp m s4 K c3 A3 chunk Fc l now dur log wr ss rs mode op rmode rcl) {wy : World} (hs : SrcAt wy W.heap.size) (hg : wx.grownBy wy (some W.heap.size)) : PS W wy b cb N g sp m s4 K c3 A3 chunk Fc l now dur log wr ss rs mode op rmode rcl := by
  refine h.fr (Fr.of_grown hg) hs (fun j hj => by omega) (fun e => ?_) (fun e => ?_) (fun b' hb' e => ?_) (fun j hj e => ?_)
  · have := h.bl; omega
  · have := h.los; omega
  · have := own_base h.row b' hb'; omega
  · have := h.lo j hj; omega
theorem PS.tight (h : PS W wx b cb N g sp m s4 K c3 A3 chunk Fc l now dur log wr ss rs mode op rmode rcl) : PS W wx b cb N g sp m s4 K c3 A3 chunk (fun j => Fc j ∧ j < wx.heap.size) l now dur log wr ss rs mode op rmode rcl :=
  ⟨h.oh, h.ca.tight, h.meta_, h.row, fun e => h.apb e.1, fun e => h.aps e.1, fun b' hb' e => h.apr b' hb' e.1, fun j hj => h.lo j hj.1, h.los⟩
/-- The cache has done something. -/
theorem PS.turn (h : PS W wx b cb N g sp m s4 K c3 A3 chunk Fc l now dur log wr ss rs mode op rmode rcl) {wy : World} {Fc' : Nat → Prop} {now' dur' : List Nat} {log' : List (Nat × Nat × Nat)} {wr' : Int} {ss' : List Sl} {mode' : Int} {op' : Bool}
    (hc : CacheAt wy Fc' g sp m N (one now' dur' log' 0 false wr') ss' chunk mode' op') (ht : Turn Fc Fc' wx wy) : PS W wy b cb N g sp m s4 K c3 A3 chunk Fc' l now' dur' log' wr' ss' rs mode' op' rmode rcl := by
  have hW := h.oh.2.1.size
  refine ⟨h.oh.fr ht.1 h.lo h.apb, hc, h.meta_.fr ht.1 h.aps, own_fr h.row ht.1 h.apr, ht.out (own_lt h.oh.2.2.1 b rfl) h.apb, ht.out h.meta_.lt h.aps, fun b' hb' => ht.out (own_lt h.row b' hb') (h.apr b' hb'), ?_, h.los⟩
  intro j hj
  rcases ht.2 j hj with h1 | h1
  · exact h.lo j h1
  · have := h.oh.1.lt
    omega
theorem PS.setS (h : PS W wx b cb N g sp m s4 K c3 A3 chunk Fc l now dur log wr ss rs mode op rmode rcl) (i : Nat) (u : Value) (rmode' : Int) (rcl' : Bool)
    (he : (#[.slice A3 K c3, .int .i64 chunk, .int .i64 rmode, .bool rcl] : Array Value).setIfInBounds i u = #[.slice A3 K c3, .int .i64 chunk, .int .i64 rmode', .bool rcl']) :
    PS W (wx.setCell ⟨s4, i, none⟩ u) b cb N g sp m s4 K c3 A3 chunk Fc l now dur log wr ss rs mode op rmode' rcl' := by
  have hf := fr_set wx s4 i u
  have hm : Cs (wx.setCell ⟨s4, i, none⟩ u) s4 41 #[.slice A3 K c3, .int .i64 chunk, .int .i64 rmode', .bool rcl'] := by
    rw [← he]
    exact heap_setCell_same wx s4 i _ _ u h.meta_
  have hbs := h.bs
  have hrs := h.rs_
  obtain ⟨oh, ca, me, ro, ab, aq, ar, lo, los⟩ := h
  exact ⟨oh.fr hf (fun j hj => by rw [hj]; exact los) hbs, ca.fr hf (fun j hj e => aq (e ▸ hj)), hm, own_fr ro hf hrs, ab, aq, ar, lo, los⟩
theorem PS.setMode (h : PS W wx b cb N g sp m s4 K c3 A3 chunk Fc l now dur log wr ss rs mode op rmode rcl) (x : Int) : PS W (wx.setCell ⟨s4, 2, none⟩ (.int .i64 x)) b cb N g sp m s4 K c3 A3 chunk Fc l now dur log wr ss rs mode op x rcl := h.setS 2 _ _ _ rfl
theorem PS.setClean (h : PS W wx b cb N g sp m s4 K c3 A3 chunk Fc l now dur log wr ss rs mode op rmode rcl) (x : Bool) : PS W (wx.setCell ⟨s4, 3, none⟩ (.bool x)) b cb N g sp m s4 K c3 A3 chunk Fc l now dur log wr ss rs mode op rmode x := h.setS 3 _ _ _ rfl
theorem PS.setWord (h : PS W wx b cb N g sp m s4 K c3 A3 chunk Fc l now dur log wr ss rs mode op rmode rcl) (j v : Nat) (hj : j < N) (hv : v < 18446744073709551616) :
    PS W (wx.setCell ⟨b, j, none⟩ (.int .u64 (v : Int))) b cb N g sp m s4 K c3 A3 chunk Fc (l.set j v) now dur log wr ss rs mode op rmode rcl := by
  have hf := fr_set wx b j (.int .u64 (v : Int))
  have hbs := h.bs
  have hrb := h.rb
  obtain ⟨-, -, ha⟩ := h.oh.at_ j hj
  obtain ⟨oh, ca, me, ro, ab, aq, ar, lo, los⟩ := h
  exact ⟨ha v hv, ca.fr hf (fun j hj e => ab (e ▸ hj)), me.fr hf (fun e => hbs e.symm), own_fr ro hf hrb, ab, aq, ar, lo, los⟩
/-- The cells of a slot of the reference. -/
theorem PS.at_ (h : PS W wx b cb N g sp m s4 K c3 A3 chunk Fc l now dur log wr ss rs mode op rmode rcl) (hl : rs.length = K) (k : Nat) (hk : k < K) :
    ∃ (bR : Nat) (s : Sl), A3 = some ⟨bR, 0, none⟩ ∧ bR ≠ s4 ∧ bR ≠ b ∧ ¬ Fc bR ∧ W.heap.size < bR ∧ rs[k]? = some s ∧
      wx.cell? ⟨bR, k * 4, none⟩ = some (.bool s.valid) ∧ wx.cell? ⟨bR, k * 4 + 1, none⟩ = some (.bool s.dirty) ∧ wx.cell? ⟨bR, k * 4 + 2, none⟩ = some (.int .i64 s.block) ∧ wx.cell? ⟨bR, k * 4 + 3, none⟩ = some (.int .i64 s.stamp) ∧ (∀ j, wx.frozen? ⟨bR, j, none⟩ = false) ∧
      ∀ y : Sl, PS W ((((wx.setCell ⟨bR, k * 4, none⟩ (.bool y.valid)).setCell ⟨bR, k * 4 + 1, none⟩ (.bool y.dirty)).setCell ⟨bR, k * 4 + 2, none⟩ (.int .i64 y.block)).setCell ⟨bR, k * 4 + 3, none⟩ (.int .i64 y.stamp)) b cb N g sp m s4 K c3 A3 chunk Fc l now dur log wr ss (rs.set k y) mode op rmode rcl := by
  obtain ⟨bR, cap, hA, -, hbR⟩ := h.row.form (by omega)
  injection hA with hA2 _ hcap
  subst hA2
  subst hcap
  have hr := h.row
  have hks : k < rs.length := by omega
  have hsz := scs_length rs
  obtain ⟨t0, t1, t2, t3⟩ := scs_at rs k rs[k] (List.getElem?_eq_getElem hks)
  have hRs := h.rs_ bR rfl
  have hRb := h.rb bR rfl
  have hRF := h.apr bR rfl
  have hRl := own_base h.row bR rfl
  refine ⟨bR, rs[k], rfl, hRs, hRb, hRF, by omega, List.getElem?_eq_getElem hks, (hr.cellAt (k * 4) (by omega)).trans t0, (hr.cellAt (k * 4 + 1) (by omega)).trans t1, (hr.cellAt (k * 4 + 2) (by omega)).trans t2, (hr.cellAt (k * 4 + 3) (by omega)).trans t3, fun j => hr.frozenAt j, fun y => ?_⟩
  have hf : Fr (fun j => j = bR) wx ((((wx.setCell ⟨bR, k * 4, none⟩ (.bool y.valid)).setCell ⟨bR, k * 4 + 1, none⟩ (.bool y.dirty)).setCell ⟨bR, k * 4 + 2, none⟩ (.int .i64 y.block)).setCell ⟨bR, k * 4 + 3, none⟩ (.int .i64 y.stamp)) :=
    ((((Fr.refl (fun j => j = bR) wx).set (b := bR) (.inl rfl) _).set (b := bR) (.inl rfl) _).set (b := bR) (.inl rfl) _).set (b := bR) (.inl rfl) _
  have hr2 := ((((hr.stored (k * 4) (.bool y.valid)).1.stored (k * 4 + 1) (.bool y.dirty)).1.stored (k * 4 + 2) (.int .i64 y.block)).1.stored (k * 4 + 3) (.int .i64 y.stamp)).1
  rw [← scs_set rs k y hks] at hr2
  obtain ⟨oh, ca, me, ro, ab, aq, ar, lo, los⟩ := h
  exact ⟨oh.fr hf (fun j hj => by omega) (fun e => hRb e.symm), ca.fr hf (fun j hj e => hRF (e ▸ hj)), me.fr hf (fun e => hRs e.symm), hr2, ab, aq, ar, lo, los⟩
end

theorem set0_id (l : List Nat) (v : Nat) (h : l[0]?.getD 0 = v) : l = l.set 0 v := by
  rcases l with _ | ⟨a, r⟩
  · rfl
  · simp at h
    rw [h]
    rfl
theorem set_at0 (l : List Nat) (k w v : Nat) (h : l[0]?.getD 0 = v) : (l.set (1 + k) w)[0]?.getD 0 = v := by
  rw [List.getElem?_set_ne (by omega)]
  exact h
theorem swr_id (now dur : List Nat) (log : List (Nat × Nat × Nat)) (wr : Int) (n k v : Nat) (hn : now.length = n) (hk : 1 + k < n) :
    (one now dur log 0 false wr).swE 0 n (1 + (k : Int)) = 0 ∧ (one now dur log 0 false wr).swrite 0 n (1 + (k : Int)) v = one (now.set (1 + k) v) dur (log ++ [(0, 1 + k, v)]) 0 false (wr + 1) := by
  subst hn
  have e := one_swE now dur log 0 wr (1 + (k : Int)) (by omega)
  have e2 := one_swrite now dur log 0 wr (1 + (k : Int)) v (by omega) (by omega)
  rw [if_neg (by omega)] at e e2
  rw [show (1 + (k : Int)).toNat = 1 + k by omega] at e2
  exact ⟨e, e2⟩

/-- Put, of any number and slot. -/
def PutAll (W : World) (Fc : Nat → Prop) (g sp m n : Nat) (now dur : List Nat) (log : List (Nat × Nat × Nat)) (wr : Int) (ss : List Sl) (chunk mode : Int) (op : Bool) (k : Int) (s : Sl) (e : Ending) (W' : World) : Prop :=
  e = .returned (.int .i64 (mputE ss.length k s)) ∧ ∃ Fc', Turn Fc Fc' W W' ∧ (mputE ss.length k s ≠ 0 → CacheAt W' Fc' g sp m n (one now dur log 0 false wr) ss chunk mode op) ∧
    (mputE ss.length k s = 0 → CacheAt W' Fc' g sp m n (one (now.set (1 + k.toNat) s.word) dur (log ++ [(0, 1 + k.toNat, s.word)]) 0 false (wr + 1)) (ss.set k.toNat s) chunk mode op)
theorem mput_all (W : World) (Fc : Nat → Prop) (g sp m n : Nat) (now dur : List Nat) (log : List (Nat × Nat × Nat)) (wr : Int) (ss : List Sl) (chunk mode : Int) (op : Bool) (k : Int) (s : Sl) (h : CacheAt W Fc g sp m n (one now dur log 0 false wr) ss chunk mode op) (hl : ss.length ≤ 1024) (hln : ss.length + 1 ≤ n) (hst : s.stamp = 0) (hnl : now.length = n) (hn : n ≤ 65536) (hlog : log.length < 1000000) (hwr : wr ≤ 1000000) :
    Calls Try.prog 34 #[.pointer (some ⟨m, 0, none⟩), .int .i64 k, s.v] W (PutAll W Fc g sp m n now dur log wr ss chunk mode op k s) := by
  by_cases h1 : k < 0 ∨ (ss.length : Int) ≤ k ∨ s.block < 0 ∨ 16777215 < s.block
  · obtain ⟨F, A, c, hc⟩ := id h
    refine (mput_range W m ss.length c A _ _ _ _ k s hc.meta_ h1).mono ?_
    rintro e w' ⟨rfl, hb⟩
    have hE : mputE ss.length k s = 1 := by unfold mputE; rw [if_pos h1]
    refine ⟨by rw [hE], Fc, Turn.of_below hb, fun _ => h.keep hb, fun h0 => ?_⟩
    rw [hE] at h0
    cases h0
  · by_cases h2 : s.valid = false ∧ (s.block ≠ 0 ∨ s.dirty = true)
    · obtain ⟨F, A, c, hc⟩ := id h
      refine (mput_form W m ss.length c A _ _ _ _ k s hc.meta_ h1 h2.1 h2.2).mono ?_
      rintro e w' ⟨rfl, hb⟩
      have hE : mputE ss.length k s = 2 := by unfold mputE; rw [if_neg h1, if_pos h2]
      refine ⟨by rw [hE], Fc, Turn.of_below hb, fun _ => h.keep hb, fun h0 => ?_⟩
      rw [hE] at h0
      cases h0
    · have hE : mputE ss.length k s = 0 := by unfold mputE; rw [if_neg h1, if_neg h2]
      obtain ⟨q, rfl⟩ : ∃ q : Nat, k = (q : Int) := ⟨k.toNat, by omega⟩
      have hv : s.valid = false → s.block = 0 ∧ s.dirty = false := by
        intro hv
        constructor
        · by_cases e : s.block = 0
          · exact e
          · exact absurd ⟨hv, .inl e⟩ h2
        · cases e : s.dirty
          · rfl
          · exact absurd ⟨hv, .inr e⟩ h2
      refine (mput_ok W Fc g sp m n _ ss chunk mode op q s h (by omega) hl (by omega) hv hn hlog hwr).mono ?_
      rintro e w' ⟨rfl, Fc', hc, ht⟩
      obtain ⟨i1, i2⟩ := swr_id now dur log wr n q s.word hnl (by omega)
      rw [i1, i2] at hc
      rw [if_pos rfl] at hc
      have hs : (⟨s.valid, s.dirty, s.block, 0⟩ : Sl) = s := by
        obtain ⟨a, b, c, d⟩ := s
        change d = 0 at hst
        subst hst
        rfl
      rw [hs] at hc
      exact ⟨by rw [hE, i1], Fc', ht, fun h0 => absurd hE h0, fun _ => hc⟩

end Go.Proofs.Ytpiffapnbjnjiaa
