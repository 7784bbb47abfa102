/-
  What is known of sectors (volumegroupmake.Track), in memory.
-/
import Derived.Test.YtpcjdmbnlhjlaaaTrkP
import Derived.Test.YtpcjdmbnlhjlaaaGd
namespace Go.Proofs.Ytpcjdmbnlhjlaaa
set_option linter.unusedVariables false
open Go.RowKit

/-- A sector's record, and where its candidates lie. -/
structure TS where
  b : Nat
  c : Nat
  x : Sec
def TS.v (y : TS) : Value := .slice (some ⟨y.b, 0, none⟩) y.x.sm.length y.c
def TS.cells (y : TS) : List Value := [y.v, .bool y.x.kn, .int .u64 (y.x.val : Int)]
def tcells (l : List TS) : List Value := l.flatMap TS.cells
theorem tcells_length (l : List TS) : (tcells l).length = l.length * 3 := by
  induction l with
  | nil => rfl
  | cons z r ih => simp only [tcells, List.flatMap_cons, List.length_append, List.length_cons] at ih ⊢; simp only [TS.cells, List.length_cons, List.length_nil]; omega
theorem tcells_snoc (l : List TS) (y : TS) : tcells (l ++ [y]) = tcells l ++ y.cells := by simp [tcells]
theorem tcells_at (l : List TS) (i : Nat) (y : TS) (h : l[i]? = some y) : (tcells l)[i * 3]? = some y.v ∧ (tcells l)[i * 3 + 1]? = some (.bool y.x.kn) ∧ (tcells l)[i * 3 + 2]? = some (.int .u64 (y.x.val : Int)) := by
  induction l generalizing i with
  | nil => simp at h
  | cons z r ih =>
    rcases i with _ | i
    · simp at h; subst h; simp [tcells, TS.cells]
    · have := ih i (by simpa using h)
      have e : ∀ j, (tcells (z :: r))[(i + 1) * 3 + j]? = (tcells r)[i * 3 + j]? := by
        intro j
        rw [show (i + 1) * 3 + j = i * 3 + j + 1 + 1 + 1 by omega]
        simp [tcells, TS.cells]
      have e0 := e 0
      simp only [Nat.add_zero] at e0
      rw [e0, e 1, e 2]
      exact this
theorem tcells_put (l : List TS) (i : Nat) (y y' : TS) (h : l[i]? = some y) (j : Nat) (hj : j < 3) (u : Value) (he : y.cells.set j u = y'.cells) : (tcells l).set (i * 3 + j) u = tcells (l.set i y') := by
  induction l generalizing i with
  | nil => simp at h
  | cons z r ih =>
    rcases i with _ | i
    · simp at h
      subst h
      show (z.cells ++ tcells r).set (0 * 3 + j) u = y'.cells ++ tcells r
      rw [Nat.zero_mul, Nat.zero_add, List.set_append_left _ _ (by simp [TS.cells]; omega), he]
    · have := ih i (by simpa using h)
      show (z.cells ++ tcells r).set ((i + 1) * 3 + j) u = z.cells ++ tcells (r.set i y')
      rw [← this, List.set_append_right _ _ (by simp [TS.cells]; omega)]
      congr 2
      simp [TS.cells]; omega

/-- A track in memory, all of it in G. -/
structure TrIn (W : World) (G : Nat → Prop) (tb rb cap : Nat) (ys : List TS) : Prop where
  tr : Cs W tb 119 #[.slice (some ⟨rb, 0, none⟩) ys.length cap]
  row : W.ownsRow 0 121 3 (.slice (some ⟨rb, 0, none⟩) ys.length cap) ys.length (tcells ys)
  rd : ∀ y ∈ ys, W.ownsRow 0 32 1 y.v y.x.sm.length (uv y.x.sm) ∧ y.x.sm ≠ [] ∧ G y.b ∧ W64 y.x.sm ∧ y.x.val < 18446744073709551616
  gt : G tb
  gr : G rb
def TrAt (W : World) (G : Nat → Prop) (tb : Nat) (t : List Sec) : Prop := ∃ rb cap ys, ys.map TS.x = t ∧ TrIn W G tb rb cap ys

theorem own_cs_ne {w : World} {base size n g c b : Nat} {e t : TypeId} {xs : List Value} {cs : Array Value} (h : w.ownsRow base e size (.slice (some ⟨g, 0, none⟩) n c) n xs) (hc : Cs w b t cs) (ht : e ≠ t) : g ≠ b := by
  intro e1
  subst e1
  rcases h.2 with ⟨h2, _⟩ | ⟨g', cap, cur, h2, _, hb, _⟩
  · cases h2
  · injection h2 with h2
    injection h2 with h2
    injection h2 with h2
    unfold Cs at hc
    rw [h2, hb] at hc
    injection hc with hc
    injection hc with _ hc
    exact ht hc
theorem own2_ne {w : World} {base base' size size' n n' g g' c c' : Nat} {e e' : TypeId} {xs xs' : List Value} (h : w.ownsRow base e size (.slice (some ⟨g, 0, none⟩) n c) n xs) (h' : w.ownsRow base' e' size' (.slice (some ⟨g', 0, none⟩) n' c') n' xs') (ht : e ≠ e') : g ≠ g' := by
  intro e1
  subst e1
  rcases h'.2 with ⟨h2, _⟩ | ⟨g', cap, cur, h2, _, hb, _⟩
  · cases h2
  · injection h2 with h2
    injection h2 with h2
    injection h2 with h2
    subst h2
    exact own_cs_ne h (show Cs w g e' cur from hb) ht rfl

section
variable {W : World} {G : Nat → Prop} {tb rb cap : Nat} {ys : List TS}
theorem TrIn.ne (h : TrIn W G tb rb cap ys) : rb ≠ tb := own_cs_ne h.row h.tr (by decide)
theorem TrIn.bt (h : TrIn W G tb rb cap ys) (y : TS) (hy : y ∈ ys) : y.b ≠ tb := own_cs_ne (h.rd y hy).1 h.tr (by decide)
theorem TrIn.br (h : TrIn W G tb rb cap ys) (y : TS) (hy : y ∈ ys) : y.b ≠ rb := own2_ne (h.rd y hy).1 h.row (by decide)
theorem TrIn.rb_lt (h : TrIn W G tb rb cap ys) : rb < W.heap.size := own_lt h.row rb rfl
theorem TrIn.fr (h : TrIn W G tb rb cap ys) {W' : World} {H : Nat → Prop} (hf : Fr H W W') (hn : ∀ j, G j → ¬ H j) : TrIn W' G tb rb cap ys :=
  ⟨h.tr.fr hf (hn _ h.gt), own_fr h.row hf (fun b hb => by simp [Value.ownBlock] at hb; rw [← hb]; exact hn _ h.gr), fun y hy => let q := h.rd y hy; ⟨own_fr q.1 hf (fun b hb => by simp [TS.v, Value.ownBlock] at hb; rw [← hb]; exact hn _ q.2.2.1), q.2⟩, h.gt, h.gr⟩
theorem TrIn.keep (h : TrIn W G tb rb cap ys) {W' : World} (hb : Below W.heap.size W W') : TrIn W' G tb rb cap ys := h.fr (H := fun _ => False) (Fr.of_below hb) (fun _ _ h => h)
theorem TrIn.mono (h : TrIn W G tb rb cap ys) {H : Nat → Prop} (hg : ∀ j, G j → H j) : TrIn W H tb rb cap ys :=
  ⟨h.tr, h.row, fun y hy => let q := h.rd y hy; ⟨q.1, q.2.1, hg _ q.2.2.1, q.2.2.2⟩, hg _ h.gt, hg _ h.gr⟩
theorem TrIn.tight (h : TrIn W G tb rb cap ys) : TrIn W (fun j => G j ∧ j < W.heap.size) tb rb cap ys :=
  ⟨h.tr, h.row, fun y hy => let q := h.rd y hy; ⟨q.1, q.2.1, ⟨q.2.2.1, own_lt q.1 y.b rfl⟩, q.2.2.2⟩, ⟨h.gt, h.tr.lt⟩, ⟨h.gr, h.rb_lt⟩⟩
/-- The cells of a sector's record. -/
theorem TrIn.at_ (h : TrIn W G tb rb cap ys) (i : Nat) (y : TS) (hy : ys[i]? = some y) : W.cell? ⟨rb, i * 3, none⟩ = some y.v ∧ W.cell? ⟨rb, i * 3 + 1, none⟩ = some (.bool y.x.kn) ∧ W.cell? ⟨rb, i * 3 + 2, none⟩ = some (.int .u64 (y.x.val : Int)) ∧ ∀ j, W.frozen? ⟨rb, j, none⟩ = false := by
  obtain ⟨t0, t1, t2⟩ := tcells_at ys i y hy
  have hi := (List.getElem?_eq_some_iff.1 hy).1
  have hl := tcells_length ys
  exact ⟨(h.row.cellAt (i * 3) (by omega)).trans t0, (h.row.cellAt (i * 3 + 1) (by omega)).trans t1, (h.row.cellAt (i * 3 + 2) (by omega)).trans t2, fun j => h.row.frozenAt j⟩
/-- A cell of a sector's record is stored. -/
theorem TrIn.put (h : TrIn W G tb rb cap ys) (i : Nat) (y y' : TS) (hy : ys[i]? = some y) (j : Nat) (hj : j < 3) (u : Value) (he : y.cells.set j u = y'.cells)
    (hr : W.ownsRow 0 32 1 y'.v y'.x.sm.length (uv y'.x.sm) ∧ y'.x.sm ≠ [] ∧ G y'.b ∧ W64 y'.x.sm ∧ y'.x.val < 18446744073709551616) : TrIn (W.setCell ⟨rb, i * 3 + j, none⟩ u) G tb rb cap (ys.set i y') := by
  have hf := fr_set W rb (i * 3 + j) u
  have hr2 := (h.row.stored (i * 3 + j) u).1
  rw [tcells_put ys i y y' hy j hj u he] at hr2
  have hl : (ys.set i y').length = ys.length := List.length_set
  refine ⟨by rw [hl]; exact h.tr.fr hf (fun e => h.ne e.symm), by rw [hl]; exact hr2, ?_, h.gt, h.gr⟩
  intro z hz
  rcases List.mem_or_eq_of_mem_set hz with hz | rfl
  · have q := h.rd z hz
    exact ⟨own_fr q.1 hf (fun b hb => by simp [TS.v, Value.ownBlock] at hb; rw [← hb]; exact h.br z hz), q.2⟩
  · exact ⟨own_fr hr.1 hf (fun b hb => by simp [TS.v, Value.ownBlock] at hb; rw [← hb]; exact own2_ne hr.1 h.row (by decide)), hr.2⟩
theorem TrIn.put1 (h : TrIn W G tb rb cap ys) (i : Nat) (y : TS) (hy : ys[i]? = some y) (k : Bool) : TrIn (W.setCell ⟨rb, i * 3 + 1, none⟩ (.bool k)) G tb rb cap (ys.set i ⟨y.b, y.c, ⟨y.x.sm, k, y.x.val⟩⟩) :=
  h.put i y _ hy 1 (by omega) _ rfl (h.rd y (List.mem_of_getElem? hy))
theorem TrIn.put2 (h : TrIn W G tb rb cap ys) (i : Nat) (y : TS) (hy : ys[i]? = some y) (v : Nat) (hv : v < 18446744073709551616) : TrIn (W.setCell ⟨rb, i * 3 + 2, none⟩ (.int .u64 (v : Int))) G tb rb cap (ys.set i ⟨y.b, y.c, ⟨y.x.sm, y.x.kn, v⟩⟩) := by
  have q := h.rd y (List.mem_of_getElem? hy)
  exact h.put i y _ hy 2 (by omega) _ rfl ⟨q.1, q.2.1, q.2.2.1, q.2.2.2.1, hv⟩
theorem TrIn.put0 (h : TrIn W G tb rb cap ys) (i : Nat) (y : TS) (hy : ys[i]? = some y) (b c : Nat) (sm : List Nat) (hr : W.ownsRow 0 32 1 (.slice (some ⟨b, 0, none⟩) sm.length c) sm.length (uv sm)) (hne : sm ≠ []) (hg : G b) (hw : W64 sm) : TrIn (W.setCell ⟨rb, i * 3, none⟩ (.slice (some ⟨b, 0, none⟩) sm.length c)) G tb rb cap (ys.set i ⟨b, c, ⟨sm, y.x.kn, y.x.val⟩⟩) :=
  h.put i y ⟨b, c, ⟨sm, y.x.kn, y.x.val⟩⟩ hy 0 (by omega) _ rfl ⟨hr, hne, hg, hw, (h.rd y (List.mem_of_getElem? hy)).2.2.2.2⟩
end
theorem TrAt.fr {W W' : World} {G H : Nat → Prop} {tb : Nat} {t : List Sec} (h : TrAt W G tb t) (hf : Fr H W W') (hn : ∀ j, G j → ¬ H j) : TrAt W' G tb t := by
  obtain ⟨rb, cap, ys, e, h⟩ := h
  exact ⟨rb, cap, ys, e, h.fr hf hn⟩
theorem TrAt.tight {W : World} {G : Nat → Prop} {tb : Nat} {t : List Sec} (h : TrAt W G tb t) : TrAt W (fun j => G j ∧ j < W.heap.size) tb t := by
  obtain ⟨rb, cap, ys, e, h⟩ := h
  exact ⟨rb, cap, ys, e, h.tight⟩
theorem TrAt.mono {W : World} {G H : Nat → Prop} {tb : Nat} {t : List Sec} (h : TrAt W G tb t) (hg : ∀ j, G j → H j) : TrAt W H tb t := by
  obtain ⟨rb, cap, ys, e, h⟩ := h
  exact ⟨rb, cap, ys, e, h.mono hg⟩

end Go.Proofs.Ytpcjdmbnlhjlaaa
