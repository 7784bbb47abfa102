/-
  Disks: frames; what memory holds of an array of disks.
  Disks: the checks of a call; Size, Count, Unflushed, Down.
  Disks: the map of bad sectors, which is empty.
  Disks: placed, present, whole; check.
  Disks: check.
  Disks: Read.
  Disks: what a write leaves in memory (no walk).
  Disks: Write.
-/
import Derived.Test.YtpcjdmbnlhjlaaaGb
import Derived.DeepKeys5
import Derived.MapKept
import Derived.Deep.DeepCutAuto
namespace Go.Proofs.Ytpcjdmbnlhjlaaa
set_option linter.unusedVariables false
open Go.RowKit

/-- Blocks outside G are as they were. -/
structure Fr (G : Nat → Prop) (W W' : World) : Prop where
  os : W'.os = W.os
  tape : W'.tape = W.tape
  output : W'.output = W.output
  size : W.heap.size ≤ W'.heap.size
  block : ∀ j, j < W.heap.size → ¬ G j → W'.heap[j]? = W.heap[j]?

theorem Fr.refl (G : Nat → Prop) (W : World) : Fr G W W := ⟨rfl, rfl, rfl, Nat.le_refl _, fun _ _ _ => rfl⟩
theorem Fr.mono {G H : Nat → Prop} {W W' : World} (h : Fr G W W') (hg : ∀ j, j < W.heap.size → G j → H j) : Fr H W W' := ⟨h.os, h.tape, h.output, h.size, fun j hj hn => h.block j hj (fun hc => hn (hg j hj hc))⟩
theorem Fr.trans {G : Nat → Prop} {A B C : World} (h : Fr G A B) (k : Fr G B C) : Fr G A C :=
  ⟨k.os.trans h.os, k.tape.trans h.tape, k.output.trans h.output, Nat.le_trans h.size k.size, fun j hj hn => (k.block j (Nat.lt_of_lt_of_le hj h.size) hn).trans (h.block j hj hn)⟩
theorem Fr.of_below {G : Nat → Prop} {W W' : World} (h : Below W.heap.size W W') : Fr G W W' := ⟨h.os, h.tape, h.output, h.size, fun j hj _ => h.block j hj⟩
theorem Fr.of_grown {g : Nat} {W W' : World} (h : W.grownBy W' (some g)) : Fr (· = g) W W' := ⟨h.os, h.tape, h.output, h.size, fun j hj hn => h.block j hj (by simpa using hn)⟩
theorem Fr.below {G : Nat → Prop} {W W' : World} {n₀ : Nat} (h : Fr G W W') (hn : n₀ ≤ W.heap.size) (hG : ∀ j, G j → n₀ ≤ j) : Below n₀ W W' :=
  ⟨h.os, h.tape, h.output, h.size, fun j hj => h.block j (by omega) (fun hc => by have := hG j hc; omega)⟩
theorem Fr.drew {G : Nat → Prop} {W W' : World} (h : Fr G W W') : Fr G W W'.drew := ⟨h.os, h.tape, h.output, h.size, h.block⟩
theorem Fr.drewN {G : Nat → Prop} {W W' : World} (h : Fr G W W') (n : Nat) : Fr G W (W'.drewN n) := ⟨h.os, h.tape, h.output, h.size, h.block⟩
theorem Fr.undrew {G : Nat → Prop} {W W' : World} (h : Fr G W.drew W') : Fr G W W' := ⟨h.os, h.tape, h.output, h.size, h.block⟩
theorem Fr.set {G : Nat → Prop} {W W' : World} (h : Fr G W W') {b i : Nat} (hb : G b ∨ W.heap.size ≤ b) (u : Value) : Fr G W (W'.setCell ⟨b, i, none⟩ u) :=
  ⟨h.os, h.tape, h.output, by simpa using h.size, fun j hj hn => (Below.heap_setCell _ _ _ j (by show j ≠ b; rintro rfl; rcases hb with hb | hb; exact hn hb; omega)).trans (h.block j hj hn)⟩
theorem Fr.alloc {G : Nat → Prop} {W W' : World} (h : Fr G W W') (o : Obj) : Fr G W (W'.alloc o) := h.trans (Fr.of_below ((Below.refl _ W').alloc (Nat.le_refl _) o))
theorem Fr.cell {G : Nat → Prop} {W W' : World} (h : Fr G W W') {b i : Nat} (hb : b < W.heap.size) (hn : ¬ G b) : W'.cell? ⟨b, i, none⟩ = W.cell? ⟨b, i, none⟩ := World.cell?_of_block (h.block b hb hn)
theorem Cs.fr {G : Nat → Prop} {W W' : World} {g : Nat} {t : TypeId} {cs : Array Value} (h : Cs W g t cs) (hf : Fr G W W') (hn : ¬ G g) : Cs W' g t cs := (hf.block g h.lt hn).trans h
theorem own_fr {G : Nat → Prop} {W W' : World} {base : Nat} {e : TypeId} {size n : Nat} {v : Value} {xs : List Value} (h : W.ownsRow base e size v n xs) (hf : Fr G W W') (hn : ∀ b, v.ownBlock = some b → ¬ G b) : W'.ownsRow base e size v n xs := by
  refine ⟨h.1, ?_⟩
  rcases h.2 with h2 | ⟨g, cap, cur, rfl, hb, hgg, rest⟩
  · exact .inl h2
  · exact .inr ⟨g, cap, cur, rfl, hb, (hf.block g (Array.getElem?_eq_some_iff.1 hgg).1 (hn g (by simp [Value.ownBlock]))).trans hgg, rest⟩
theorem own_lt {W : World} {base : Nat} {e : TypeId} {size n : Nat} {v : Value} {xs : List Value} (h : W.ownsRow base e size v n xs) (b : Nat) (hv : v.ownBlock = some b) : b < W.heap.size := by
  rcases h.2 with ⟨rfl, _⟩ | ⟨g, cap, cur, rfl, _, hgg, _⟩
  · simp [Value.ownBlock] at hv
  · obtain rfl : g = b := by simpa [Value.ownBlock] using hv
    exact (Array.getElem?_eq_some_iff.1 hgg).1
theorem SrcAt.fr {G : Nat → Prop} {W W' : World} {g : Nat} (h : SrcAt W g) (hf : Fr G W W') (hG : ∀ j, G j → g < j) : SrcAt W' g :=
  h.below (B := g + 1) (hf.below (by have := h.lt; omega) (fun j hj => hG j hj)) (by omega)

/-- A footprint F becomes F': new blocks alone are added, and the blocks outside are as they were. -/
def Turn (F F' : Nat → Prop) (W W' : World) : Prop := Fr F W W' ∧ ∀ j, F' j → F j ∨ W.heap.size ≤ j
theorem Turn.refl (F : Nat → Prop) (W : World) : Turn F F W W := ⟨Fr.refl _ _, fun j h => .inl h⟩
theorem Turn.trans {F F' F'' : Nat → Prop} {A B C : World} (h : Turn F F' A B) (k : Turn F' F'' B C) : Turn F F'' A C :=
  ⟨⟨k.1.os.trans h.1.os, k.1.tape.trans h.1.tape, k.1.output.trans h.1.output, Nat.le_trans h.1.size k.1.size,
    fun j hj hn => (k.1.block j (Nat.lt_of_lt_of_le hj h.1.size) (fun hc => (h.2 j hc).elim hn (fun hl => by omega))).trans (h.1.block j hj hn)⟩,
    fun j hj => (k.2 j hj).elim (fun h' => h.2 j h') (fun hl => .inr (Nat.le_trans h.1.size hl))⟩
theorem Turn.of_below {F : Nat → Prop} {W W' : World} (h : Below W.heap.size W W') : Turn F F W W' := ⟨Fr.of_below h, fun j h => .inl h⟩
theorem Turn.out {F F' : Nat → Prop} {W W' : World} (h : Turn F F' W W') {b : Nat} (hb : b < W.heap.size) (hn : ¬ F b) : ¬ F' b := fun hc => (h.2 b hc).elim hn (fun hl => by omega)
theorem Turn.ge {F F' : Nat → Prop} {W W' : World} {n₀ : Nat} (h : Turn F F' W W') (hn : n₀ ≤ W.heap.size) (hF : ∀ j, F j → n₀ ≤ j) : ∀ j, F' j → n₀ ≤ j := fun j hj => (h.2 j hj).elim (hF j) (fun hl => by omega)

/-- The state of an array: of each disk what its sectors hold, what they held at the last flush, and whether it is missing. -/
structure DS where
  dr : List (List Nat × List Nat × Bool)
  log : List (Nat × Nat × Nat)
  fuse : Int
  down : Bool
  wr : Int

def DS.drv (S : DS) (d : Nat) : List Nat × List Nat × Bool := S.dr[d]?.getD ([], [], false)
def DS.size (S : DS) (d : Int) : Nat := if d < 0 ∨ (S.dr.length : Int) ≤ d then 0 else (S.drv d.toNat).1.length
def DS.cLoc (S : DS) (d : Int) : Int := if d < 0 ∨ (S.dr.length : Int) ≤ d then 1 else 0
def DS.cPla (S : DS) (d at_ : Int) : Int := if at_ < 0 ∨ (S.size d : Int) ≤ at_ then 1 else 0
def DS.cPow (S : DS) : Int := if S.down then 5 else 0
def DS.cMis (S : DS) (d : Int) : Int := if (S.drv d.toNat).2.2 then 6 else 0
/-- The first that is not 0. -/
def firstE : List Int → Int
  | [] => 0
  | x :: l => if x = 0 then firstE l else x
def DS.chk (S : DS) (d at_ : Int) : Int := firstE [S.cPow, S.cLoc d, S.cPla d at_, S.cMis d]
def DS.chkF (S : DS) (d : Int) : Int := firstE [S.cPow, S.cLoc d, S.cMis d]
def DS.rd (S : DS) (d at_ : Int) : Nat := (S.drv d.toNat).1[at_.toNat]?.getD 0

/-- The blocks of a disk's sectors, and the disk. -/
structure Dl where
  nb : Nat
  db : Nat
  x : List Nat × List Nat × Bool
def Dl.cells (z : Dl) : List Value := [.slice (some ⟨z.nb, 0, none⟩) z.x.1.length z.x.1.length, .slice (some ⟨z.db, 0, none⟩) z.x.2.1.length z.x.2.1.length, .bool z.x.2.2]
def dcells (zs : List Dl) : List Value := zs.flatMap Dl.cells
def rcells (l : List (Nat × Nat × Nat)) : List Value := l.flatMap fun r => [.int .i64 (r.1 : Int), .int .i64 (r.2.1 : Int), .int .u64 (r.2.2 : Int)]

/-- What is known of the numbers of an array. -/
structure DS.Ok (S : DS) : Prop where
  nd : S.dr.length ≤ 8
  drv : ∀ x ∈ S.dr, W64 x.1 ∧ W64 x.2.1 ∧ x.2.1.length = x.1.length ∧ x.1.length ≤ 65536
  log : ∀ r ∈ S.log, r.1 < S.dr.length ∧ r.2.1 < (S.drv r.1).1.length ∧ r.2.2 < 18446744073709551616
  fuse : 0 ≤ S.fuse ∧ S.fuse ≤ 9223372036854775807
  wr : 0 ≤ S.wr

/-- Where an array lies: its drives, its map of bad sectors (which is empty), its log. -/
structure DLay (W : World) (g : Nat) (S : DS) (dv lv : Value) (mb : Nat) (zs : List Dl) : Prop where
  arr : Cs W g 86 #[dv, .map (some mb), lv, .int .i64 S.fuse, .bool S.down, .int .i64 S.wr]
  drv : W.ownsRow 0 89 3 dv S.dr.length (dcells zs)
  map : W.heap[mb]? = some (.map #[] 0)
  log : W.ownsRow 0 112 3 lv S.log.length (rcells S.log)
  dr : S.dr = zs.map Dl.x
  now : ∀ z ∈ zs, Cs W z.nb 32 (uv z.x.1).toArray
  dur : ∀ z ∈ zs, Cs W z.db 32 (uv z.x.2.1).toArray
  apart : (zs.flatMap fun z => [z.nb, z.db]).Nodup

/-- Its blocks lie in F. -/
structure DIn (F : Nat → Prop) (g : Nat) (dv lv : Value) (mb : Nat) (zs : List Dl) : Prop where
  arr : F g
  map : F mb
  drv : ∀ b, dv.ownBlock = some b → F b
  log : ∀ b, lv.ownBlock = some b → F b
  now : ∀ z ∈ zs, F z.nb
  dur : ∀ z ∈ zs, F z.db

def DskAt (W : World) (F : Nat → Prop) (g : Nat) (S : DS) : Prop := S.Ok ∧ ∃ dv lv mb zs, DLay W g S dv lv mb zs ∧ DIn F g dv lv mb zs

theorem map_lt {W : World} {mb : Nat} {o : Obj} (h : W.heap[mb]? = some o) : mb < W.heap.size := (Array.getElem?_eq_some_iff.1 h).1
theorem DskAt.fr {W W' : World} {F G : Nat → Prop} {g : Nat} {S : DS} (h : DskAt W F g S) (hf : Fr G W W') (hn : ∀ j, F j → ¬ G j) : DskAt W' F g S := by
  obtain ⟨ho, dv, lv, mb, zs, hl, hi⟩ := h
  exact ⟨ho, dv, lv, mb, zs, ⟨hl.arr.fr hf (hn _ hi.arr), own_fr hl.drv hf (fun b hb => hn _ (hi.drv b hb)), (hf.block mb (map_lt hl.map) (hn _ hi.map)).trans hl.map, own_fr hl.log hf (fun b hb => hn _ (hi.log b hb)),
    hl.dr, fun z hz => (hl.now z hz).fr hf (hn _ (hi.now z hz)), fun z hz => (hl.dur z hz).fr hf (hn _ (hi.dur z hz)), hl.apart⟩, hi⟩
theorem DskAt.keep {W W' : World} {F : Nat → Prop} {g : Nat} {S : DS} (h : DskAt W F g S) (hb : Below W.heap.size W W') : DskAt W' F g S :=
  h.fr (G := fun _ => False) (Fr.of_below hb) (fun _ _ h => h)
theorem DskAt.drew {W : World} {F : Nat → Prop} {g : Nat} {S : DS} (h : DskAt W F g S) : DskAt W.drew F g S := h.keep (Below.refl _ W).drew
theorem DskAt.lt {W : World} {F : Nat → Prop} {g : Nat} {S : DS} (h : DskAt W F g S) : g < W.heap.size ∧ F g := by
  obtain ⟨ho, dv, lv, mb, zs, hl, hi⟩ := h
  exact ⟨hl.arr.lt, hi.arr⟩

theorem dcells_length (zs : List Dl) : (dcells zs).length = zs.length * 3 := by
  induction zs with
  | nil => rfl
  | cons z r ih => simp only [dcells, List.flatMap_cons, List.length_append, List.length_cons] at ih ⊢; simp only [Dl.cells, List.length_cons, List.length_nil]; omega
theorem rcells_length (l : List (Nat × Nat × Nat)) : (rcells l).length = l.length * 3 := by
  induction l with
  | nil => rfl
  | cons z r ih => simp only [rcells, List.flatMap_cons, List.length_append, List.length_cons, List.length_nil] at ih ⊢; omega
theorem dcells_at (zs : List Dl) (i : Nat) (z : Dl) (h : zs[i]? = some z) : (dcells zs)[i * 3]? = some (.slice (some ⟨z.nb, 0, none⟩) z.x.1.length z.x.1.length) ∧ (dcells zs)[i * 3 + 1]? = some (.slice (some ⟨z.db, 0, none⟩) z.x.2.1.length z.x.2.1.length) ∧ (dcells zs)[i * 3 + 2]? = some (.bool z.x.2.2) := by
  induction zs generalizing i with
  | nil => simp at h
  | cons y r ih =>
    rcases i with _ | i
    · simp at h; subst h; simp [dcells, Dl.cells]
    · have := ih i (by simpa using h)
      have e : ∀ k, (dcells (y :: r))[(i + 1) * 3 + k]? = (dcells r)[i * 3 + k]? := by
        intro k
        rw [show (i + 1) * 3 + k = i * 3 + k + 1 + 1 + 1 by omega]
        simp [dcells, Dl.cells]
      have e0 := e 0
      simp only [Nat.add_zero] at e0
      rw [e0, e 1, e 2]
      exact this
theorem rcells_at (l : List (Nat × Nat × Nat)) (i : Nat) (r : Nat × Nat × Nat) (h : l[i]? = some r) : (rcells l)[i * 3]? = some (.int .i64 (r.1 : Int)) ∧ (rcells l)[i * 3 + 1]? = some (.int .i64 (r.2.1 : Int)) ∧ (rcells l)[i * 3 + 2]? = some (.int .u64 (r.2.2 : Int)) := by
  induction l generalizing i with
  | nil => simp at h
  | cons y q ih =>
    rcases i with _ | i
    · simp at h; subst h; simp [rcells]
    · have := ih i (by simpa using h)
      have e : ∀ k, (rcells (y :: q))[(i + 1) * 3 + k]? = (rcells q)[i * 3 + k]? := by
        intro k
        rw [show (i + 1) * 3 + k = i * 3 + k + 1 + 1 + 1 by omega]
        simp [rcells]
      have e0 := e 0
      simp only [Nat.add_zero] at e0
      rw [e0, e 1, e 2]
      exact this

/-- What the walk reads of an array. -/
theorem DLay.cells {W : World} {g : Nat} {S : DS} {dv lv : Value} {mb : Nat} {zs : List Dl} (h : DLay W g S dv lv mb zs) :
    W.cell? ⟨g, 0, none⟩ = some dv ∧ W.cell? ⟨g, 1, none⟩ = some (.map (some mb)) ∧ W.cell? ⟨g, 2, none⟩ = some lv ∧ W.cell? ⟨g, 3, none⟩ = some (.int .i64 S.fuse) ∧ W.cell? ⟨g, 4, none⟩ = some (.bool S.down) ∧ W.cell? ⟨g, 5, none⟩ = some (.int .i64 S.wr) :=
  ⟨h.arr.cell 0, h.arr.cell 1, h.arr.cell 2, h.arr.cell 3, h.arr.cell 4, h.arr.cell 5⟩
theorem DLay.one {W : World} {g : Nat} {S : DS} {dv lv : Value} {mb : Nat} {zs : List Dl} (h : DLay W g S dv lv mb zs) (d : Nat) (hd : d < S.dr.length) :
    ∃ (b cap : Nat) (z : Dl), dv = .slice (some ⟨b, 0, none⟩) S.dr.length cap ∧ S.dr.length ≤ cap ∧ zs[d]? = some z ∧ z ∈ zs ∧ z.x = S.drv d ∧ W.cell? ⟨b, d * 3, none⟩ = some (.slice (some ⟨z.nb, 0, none⟩) z.x.1.length z.x.1.length) ∧
      W.cell? ⟨b, d * 3 + 1, none⟩ = some (.slice (some ⟨z.db, 0, none⟩) z.x.2.1.length z.x.2.1.length) ∧ W.cell? ⟨b, d * 3 + 2, none⟩ = some (.bool z.x.2.2) := by
  obtain ⟨b, cap, hv, hb, hlt⟩ := h.drv.form (by omega)
  have hzl : S.dr.length = zs.length := by rw [h.dr, List.length_map]
  have hz : zs[d]? = some zs[d] := List.getElem?_eq_getElem (by omega)
  have hx : zs[d].x = S.drv d := by
    unfold DS.drv
    rw [h.dr, List.getElem?_map, hz]
    rfl
  obtain ⟨c0, c1, c2⟩ := dcells_at zs d _ hz
  have hdr := h.drv
  rw [hv] at hdr
  have hcap : S.dr.length ≤ cap := own_cap hdr
  refine ⟨b, cap, zs[d], hv, hcap, hz, List.getElem_mem _, hx, ?_, ?_, ?_⟩
  · rw [hdr.cellAt (d * 3) (by omega)]; exact c0
  · rw [hdr.cellAt (d * 3 + 1) (by omega)]; exact c1
  · rw [hdr.cellAt (d * 3 + 2) (by omega)]; exact c2

end Go.Proofs.Ytpcjdmbnlhjlaaa

namespace Go.Proofs.Ytpcjdmbnlhjlaaa
set_option linter.unusedVariables false
open Go.RowKit

theorem fault_any (b : Bool) (e0 : Int) (W : World) : Calls Try.prog 83 #[.bool b, .int .i64 e0] W fun e w' => e = .returned (.int .i64 (if b = true then e0 else 0)) ∧ w' = W := by
  cases b
  · go_enter Try.func83, Try.ntmps83
    go_wp2
    go_ret
    exact ⟨rfl, rfl⟩
  · go_enter Try.func83, Try.ntmps83
    go_wp2
    go_ret
    exact ⟨rfl, rfl⟩

theorem powered_any (W : World) (F : Nat → Prop) (g : Nat) (S : DS) (d a : Int) (h : DskAt W F g S) :
    Calls Try.prog 78 #[.pointer (some ⟨g, 0, none⟩), .agg #[.int .i64 d, .int .i64 a]] W fun e w' => e = .returned (.int .i64 S.cPow) ∧ Below W.heap.size W w' := by
  obtain ⟨ho, dv, lv, mb, zs, hl, hi⟩ := h
  obtain ⟨x0, x1, x2, x3, x4, x5⟩ := hl.cells
  have hlt := hl.arr.lt
  clear x0 x1 x2 x3 x5
  have HD : Hid (S.cPow = if S.down = true then 5 else 0) := rfl
  generalize S.down = dn at x4 HD
  go_enter Try.func78, Try.ntmps78
  go_wp2_with fail
  refine (fault_any dn 5 _).mono ?_
  rintro e w' ⟨rfl, rfl⟩
  rw [← HD.out]
  go_wp2_with fail
  go_ret
  exact ⟨rfl, (Below.refl _ _).alloc (Nat.le_refl _) _⟩

theorem asize_any (W : World) (F : Nat → Prop) (g : Nat) (S : DS) (d : Int) (h : DskAt W F g S) :
    Calls Try.prog 43 #[.pointer (some ⟨g, 0, none⟩), .int .i64 d] W fun e w' => e = .returned (.int .i64 (S.size d : Int)) ∧ ∃ n, w' = W.drewN n := by
  obtain ⟨ho, dv, lv, mb, zs, hl, hi⟩ := h
  obtain ⟨x0, x1, x2, x3, x4, x5⟩ := hl.cells
  clear x1 x2 x3 x4 x5
  obtain ⟨A, c, rfl⟩ := own_form hl.drv
  have hnd := ho.nd
  have hcap := own_cap hl.drv
  by_cases h0 : d < 0
  · have HD : Hid (S.size d = 0) := by show _ = _; unfold DS.size; rw [if_pos (.inl h0)]
    generalize S.size d = sz at *
    clear hl ho hi
    go_enter Try.func43, Try.ntmps43
    go_wp2_with fail
    go_ret
    exact ⟨by rw [HD.out]; rfl, 0, rfl⟩
  · by_cases h1 : (S.dr.length : Int) ≤ d
    · have HD : Hid (S.size d = 0) := by show _ = _; unfold DS.size; rw [if_pos (.inr h1)]
      generalize S.size d = sz at *
      clear hl ho hi
      go_enter Try.func43, Try.ntmps43
      go_wp2_with fail
      go_ret
      exact ⟨by rw [HD.out]; rfl, 0, rfl⟩
    · have HD : Hid (S.size d = (S.drv d.toNat).1.length) := by show _ = _; unfold DS.size; rw [if_neg (by omega)]
      obtain ⟨i, rfl⟩ : ∃ i : Nat, d = (i : Int) := ⟨d.toNat, by omega⟩
      rw [Int.toNat_natCast] at HD
      have hi' : i < S.dr.length := by omega
      obtain ⟨b, cap, z, hv, hcl, hz, hzm, hx, c0, c1, c2⟩ := hl.one i hi'
      obtain ⟨rfl, rfl⟩ : A = some ⟨b, 0, none⟩ ∧ c = cap := by injection hv with p _ q; exact ⟨p, q⟩
      rw [← hx] at HD
      generalize S.size (i : Int) = sz at *
      generalize z.x.1.length = n at *
      clear hl ho hi hv hz hzm hx c1 c2
      go_enter Try.func43, Try.ntmps43
      go_wp2_with fail
      go_ret
      exact ⟨by rw [HD.out]; rfl, 0, rfl⟩

set_option maxHeartbeats 1000000 in
theorem located_any (W : World) (F : Nat → Prop) (g : Nat) (S : DS) (d a : Int) (h : DskAt W F g S) :
    Calls Try.prog 79 #[.pointer (some ⟨g, 0, none⟩), .agg #[.int .i64 d, .int .i64 a]] W fun e w' => e = .returned (.int .i64 (S.cLoc d)) ∧ Below W.heap.size W w' := by
  obtain ⟨ho, dv, lv, mb, zs, hl, hi⟩ := h
  obtain ⟨x0, x1, x2, x3, x4, x5⟩ := hl.cells
  clear x1 x2 x3 x4 x5
  obtain ⟨A, c, rfl⟩ := own_form hl.drv
  have hnd := ho.nd
  have hlt := hl.arr.lt
  have hne : g ≠ W.heap.size := by omega
  have x0 := (World.cell?_alloc_lt W (.cells #[.int .i64 d, .int .i64 a] 110) ⟨g, 0, none⟩ hlt).trans x0
  clear hl ho hi
  by_cases h0 : d < 0
  · have HD : Hid (S.cLoc d = 1) := by show _ = _; unfold DS.cLoc; rw [if_pos (.inl h0)]
    have hd : decide (d < 0) = true := by simpa using h0
    generalize S.cLoc d = sz at *
    generalize S.dr.length = n at *
    go_enter Try.func79, Try.ntmps79
    go_wp2_with fail
    go_quiet ((go_at_call 83; exact Calls.quiet_of_same (fault_any _ _ _)))
    go_wp2_with fail
    go_ret
    exact ⟨by rw [HD.out]; rfl, below_drewN ((Below.refl _ _).alloc (Nat.le_refl _) _) _⟩
  · have hd : decide (d < 0) = false := by simpa using h0
    by_cases h1 : (S.dr.length : Int) ≤ d
    · have HD : Hid (S.cLoc d = 1) := by show _ = _; unfold DS.cLoc; rw [if_pos (.inr h1)]
      have hd1 : decide ((S.dr.length : Int) ≤ d) = true := by simpa using h1
      generalize S.cLoc d = sz at *
      generalize S.dr.length = n at *
      go_enter Try.func79, Try.ntmps79
      go_wp2_with fail
      go_quiet ((go_at_call 83; exact Calls.quiet_of_same (fault_any _ _ _)))
      go_wp2_with fail
      go_ret
      exact ⟨by rw [HD.out]; rfl, below_drewN ((Below.refl _ _).alloc (Nat.le_refl _) _) _⟩
    · have HD : Hid (S.cLoc d = 0) := by show _ = _; unfold DS.cLoc; rw [if_neg (by omega)]
      have hd1 : decide ((S.dr.length : Int) ≤ d) = false := by simpa using h1
      generalize S.cLoc d = sz at *
      generalize S.dr.length = n at *
      go_enter Try.func79, Try.ntmps79
      go_wp2_with fail
      go_quiet ((go_at_call 83; exact Calls.quiet_of_same (fault_any _ _ _)))
      go_wp2_with fail
      go_ret
      exact ⟨by rw [HD.out]; rfl, below_drewN ((Below.refl _ _).alloc (Nat.le_refl _) _) _⟩

end Go.Proofs.Ytpcjdmbnlhjlaaa

namespace Go.Proofs.Ytpcjdmbnlhjlaaa
set_option linter.unusedVariables false
open Go.RowKit

theorem check_place (d a : Int) (w : World) : (Instr.checkKey true 10000 110 (.agg #[.int .i64 d, .int .i64 a])).run Try.prog w = .ok () w := by kernel_rfl
theorem zero_bool (w : World) : (zeroValue 4).run Try.prog w = .ok (.bool false) w := by kernel_rfl

theorem run_bad_lookup (w : World) (mb : Nat) (d a : Int) (h : w.heap[mb]? = some (.map #[] 0)) : (Instr.lookup 83 (.map (some mb)) (.agg #[.int .i64 d, .int .i64 a]) false).run Try.prog w = .ok (.bool false) w := by
  have hg : (getObj mb).run Try.prog w = .ok (.map #[] 0) w := MapKept.run_getObj_map h
  simp only [Instr.lookup, Sem.run_bind, run_underlying Try.underlying83, Result.andThen_ok, hg, Sem.run_pure, Array.isEmpty_empty, check_place, Instr.findKey, run_underlying Try.underlying110, Instr.findNow, zero_bool]
  simp
theorem set_same (w : World) (mb : Nat) (o : Obj) (h : w.heap[mb]? = some o) : { w with heap := w.heap.setIfInBounds mb o } = w := by
  have : w.heap.setIfInBounds mb o = w.heap := by
    apply Array.ext
    · simp
    · intro i h1 h2
      rw [Array.getElem_setIfInBounds]
      split
      · rename_i e; subst e; rw [Array.getElem?_eq_getElem h2] at h; injection h with h; exact h.symm
      · rfl
  rw [this]
theorem run_bad_delete (w : World) (mb : Nat) (d a : Int) (h : w.heap[mb]? = some (.map #[] 0)) (ty : TypeId) : (Builtin.delete_ #[83, 110] ty #[.map (some mb), .agg #[.int .i64 d, .int .i64 a]]).run Try.prog w = .ok (.tuple #[]) w := by
  have hg : (getObj mb).run Try.prog w = .ok (.map #[] 0) w := MapKept.run_getObj_map h
  have hs : (setObj mb (.map #[] 0)).run Try.prog w = .ok () w := by rw [MapKept.run_setObj_map _ h, set_same w mb _ h]
  simp [Builtin.delete_, Sem.run_bind, run_underlying Try.underlying83, Result.andThen_ok, hg, check_place, Instr.findKey, run_underlying Try.underlying110, Instr.findNow, hs]

end Go.Proofs.Ytpcjdmbnlhjlaaa

namespace Go.Proofs.Ytpcjdmbnlhjlaaa
set_option linter.unusedVariables false
open Go.RowKit

theorem DskAt.drewN {W : World} {F : Nat → Prop} {g : Nat} {S : DS} (h : DskAt W F g S) (n : Nat) : DskAt (W.drewN n) F g S := h.keep (below_drewN (Below.refl _ W) n)

theorem cases_bool (p : Prop) [Decidable p] : decide p = true ∨ decide p = false := by cases decide p <;> simp

set_option maxHeartbeats 1000000 in
theorem placed_any (W : World) (F : Nat → Prop) (g : Nat) (S : DS) (d a : Int) (h : DskAt W F g S) :
    Calls Try.prog 81 #[.pointer (some ⟨g, 0, none⟩), .agg #[.int .i64 d, .int .i64 a]] W fun e w' => e = .returned (.int .i64 (S.cPla d a)) ∧ Below W.heap.size W w' := by
  have HDk := Lib.hid (h.keep ((Below.refl _ _).alloc (Nat.le_refl _) (.cells #[.int .i64 d, .int .i64 a] 110)))
  have HC : Hid (S.cPla d a = if a < 0 ∨ (S.size d : Int) ≤ a then 1 else 0) := rfl
  clear h
  by_cases h0 : a < 0
  · have hd : decide (a < 0) = true := by simpa using h0
    rw [if_pos (.inl h0)] at HC
    generalize S.cPla d a = sz at *
    go_enter Try.func81, Try.ntmps81
    go_wp2_with fail
    go_quiet ((go_at_call 83; exact Calls.quiet_of_same (fault_any _ _ _)))
    go_wp2_with fail
    go_ret
    exact ⟨by rw [HC.out]; rfl, below_drewN ((Below.refl _ _).alloc (Nat.le_refl _) _) _⟩
  · have hd : decide (a < 0) = false := by simpa using h0
    by_cases h1 : (S.size d : Int) ≤ a
    · rw [if_pos (.inr h1)] at HC
      have hd1 : decide ((S.size d : Int) ≤ a) = true := by simpa using h1
      have HZ := Lib.hid (fun n => asize_any _ F g S d (HDk.out.drewN n))
      generalize S.cPla d a = sz at *
      generalize S.size d = n at *
      go_enter Try.func81, Try.ntmps81
      go_wp2_with fail
      go_quiet ((first | (go_at_call 83; exact Calls.quiet_of_same (fault_any _ _ _)) | (go_at_call 43; exact Calls.quiet_of (HZ.out _))))
      go_wp2_with fail
      go_ret
      exact ⟨by rw [HC.out]; rfl, below_drewN ((Below.refl _ _).alloc (Nat.le_refl _) _) _⟩
    · rw [if_neg (by omega)] at HC
      have hd1 : decide ((S.size d : Int) ≤ a) = false := by simpa using h1
      have HZ := Lib.hid (fun n => asize_any _ F g S d (HDk.out.drewN n))
      generalize S.cPla d a = sz at *
      generalize S.size d = n at *
      go_enter Try.func81, Try.ntmps81
      go_wp2_with fail
      go_quiet ((first | (go_at_call 83; exact Calls.quiet_of_same (fault_any _ _ _)) | (go_at_call 43; exact Calls.quiet_of (HZ.out _))))
      go_wp2_with fail
      go_ret
      exact ⟨by rw [HC.out]; rfl, below_drewN ((Below.refl _ _).alloc (Nat.le_refl _) _) _⟩

set_option maxHeartbeats 1000000 in
theorem present_any (W : World) (F : Nat → Prop) (g : Nat) (S : DS) (d a : Int) (h : DskAt W F g S) (h1 : 0 ≤ d) (h2 : d < (S.dr.length : Int)) :
    Calls Try.prog 80 #[.pointer (some ⟨g, 0, none⟩), .agg #[.int .i64 d, .int .i64 a]] W fun e w' => e = .returned (.int .i64 (S.cMis d)) ∧ Below W.heap.size W w' := by
  obtain ⟨ho, dv, lv, mb, zs, hl, hi⟩ := h.keep ((Below.refl _ _).alloc (Nat.le_refl _) (.cells #[.int .i64 d, .int .i64 a] 110))
  obtain ⟨x0, x1, x2, x3, x4, x5⟩ := hl.cells
  obtain ⟨i, rfl⟩ : ∃ i : Nat, d = (i : Int) := ⟨d.toNat, by omega⟩
  have hi' : i < S.dr.length := by omega
  have HD : Hid (S.cMis (i : Int) = if (S.drv i).2.2 = true then 6 else 0) := rfl
  obtain ⟨b, cap, z, rfl, hcl, hz, hzm, hx, c0, c1, c2⟩ := hl.one i hi'
  have hnd := ho.nd
  have hg := h.lt.1
  rw [← hx] at HD
  generalize S.cMis (i : Int) = sz at *
  generalize z.x.2.2 = ms at *
  generalize S.dr.length = n at *
  have t1 : (0 : Int) ≤ (i : Int) := by omega
  have t2 : (i : Int) < (n : Int) := by omega
  clear hl ho hi hz hzm hx c0 c1 x1 x2 x3 x4 x5 h
  cases ms
  · go_enter Try.func80, Try.ntmps80
    go_wp2_with fail
    go_quiet ((go_at_call 83; exact Calls.quiet_of_same (fault_any _ _ _)))
    go_wp2_with fail
    go_ret
    exact ⟨by rw [HD.out]; rfl, below_drewN ((Below.refl _ _).alloc (Nat.le_refl _) _) _⟩
  · go_enter Try.func80, Try.ntmps80
    go_wp2_with fail
    go_quiet ((go_at_call 83; exact Calls.quiet_of_same (fault_any _ _ _)))
    go_wp2_with fail
    go_ret
    exact ⟨by rw [HD.out]; rfl, below_drewN ((Below.refl _ _).alloc (Nat.le_refl _) _) _⟩

set_option maxHeartbeats 1000000 in
theorem whole_any (W : World) (F : Nat → Prop) (g : Nat) (S : DS) (d a : Int) (h : DskAt W F g S) :
    Calls Try.prog 82 #[.pointer (some ⟨g, 0, none⟩), .agg #[.int .i64 d, .int .i64 a]] W fun e w' => e = .returned (.int .i64 0) ∧ Below W.heap.size W w' := by
  obtain ⟨ho, dv, lv, mb, zs, hl, hi⟩ := h.keep ((Below.refl _ _).alloc (Nat.le_refl _) (.cells #[.int .i64 d, .int .i64 a] 110))
  obtain ⟨x0, x1, x2, x3, x4, x5⟩ := hl.cells
  have hg := h.lt.1
  have hlk := fun n => run_bad_lookup ((W.alloc (.cells #[.int .i64 d, .int .i64 a] 110)).drewN n) mb d a hl.map
  clear hl ho hi x0 x2 x3 x4 x5 h
  go_enter Try.func82, Try.ntmps82
  go_wp2_with fail
  go_quiet ((go_at_call 83; exact Calls.quiet_of_same (fault_any _ _ _)))
  go_wp2_with fail
  go_ret
  exact ⟨rfl, below_drewN ((Below.refl _ _).alloc (Nat.le_refl _) _) _⟩

end Go.Proofs.Ytpcjdmbnlhjlaaa

namespace Go.Proofs.Ytpcjdmbnlhjlaaa
set_option linter.unusedVariables false
open Go.RowKit

/-- The function values of the checks, with the receiver that they hold. -/
def fv (g : Nat) (fs : List (Nat × Int)) : List Value := fs.map fun p => .func (.func p.1) #[.pointer (some ⟨g, 0, none⟩)] #[]
theorem fv_at (g : Nat) (fs : List (Nat × Int)) (k : Nat) (p : Nat × Int) (h : fs[k]? = some p) : (fv g fs)[k]? = some (.func (.func p.1) #[.pointer (some ⟨g, 0, none⟩)] #[]) := by simp [fv, h]

def Zeros (fs : List (Nat × Int)) (k : Nat) : Prop := ∀ j, j < k → (fs[j]?.getD (0, 0)).2 = 0
theorem Zeros.snoc {fs : List (Nat × Int)} {k : Nat} (h : Zeros fs k) {p : Nat × Int} (hp : fs[k]? = some p) (h0 : p.2 = 0) : Zeros fs (k + 1) := by
  intro j hj
  by_cases e : j = k
  · subst e; rw [hp]; exact h0
  · exact h j (by omega)
theorem firstE_zeros (fs : List (Nat × Int)) : Zeros fs fs.length → firstE (fs.map (·.2)) = 0 := by
  induction fs with
  | nil => intro _; rfl
  | cons p r ih =>
    intro h
    have h0 : p.2 = 0 := by simpa using h 0 (by simp)
    simp only [List.map_cons, firstE, h0, if_true]
    exact ih (fun j hj => by simpa using h (j + 1) (by simp; omega))
theorem firstE_at (fs : List (Nat × Int)) (k : Nat) (p : Nat × Int) (hz : Zeros fs k) (hp : fs[k]? = some p) (h0 : p.2 ≠ 0) : firstE (fs.map (·.2)) = p.2 := by
  induction fs generalizing k with
  | nil => simp at hp
  | cons q r ih =>
    rcases k with _ | k
    · simp at hp; subst hp
      simp only [List.map_cons, firstE, if_neg h0]
    · have hq : q.2 = 0 := by simpa using hz 0 (by omega)
      simp only [List.map_cons, firstE, hq, if_true]
      exact ih k (fun j hj => by simpa using hz (j + 1) (by omega)) (by simpa using hp)

/-- What the checks answer, each as long as none ahead of it has an error. -/
def Answers (W : World) (g : Nat) (d a : Int) (fs : List (Nat × Int)) : Prop :=
  ∀ k p, fs[k]? = some p → (∀ V, (callFunc p.1 #[.pointer (some ⟨g, 0, none⟩), .agg #[.int .i64 d, .int .i64 a]]).run Try.prog V = .ok (.enter p.1 #[.pointer (some ⟨g, 0, none⟩), .agg #[.int .i64 d, .int .i64 a]]) V) ∧ (Zeros fs k → ∀ V, Below W.heap.size W V → Calls Try.prog p.1 #[.pointer (some ⟨g, 0, none⟩), .agg #[.int .i64 d, .int .i64 a]] V fun e w' => e = .returned (.int .i64 p.2) ∧ Below V.heap.size V w')

set_option maxRecDepth 100000 in
set_option maxHeartbeats 1000000 in
theorem check_any (W : World) (g b N : Nat) (d a : Int) (fs : List (Nat × Int)) (hN : fs.length = N) (hN5 : N ≤ 5) (hb : Cs W b 147 (fv g fs).toArray) (hA : Answers W g d a fs) :
    Calls Try.prog 77 #[.agg #[.int .i64 d, .int .i64 a], .slice (some ⟨b, 0, none⟩) N N] W fun e w' => e = .returned (.int .i64 (firstE (fs.map (·.2)))) ∧ Below W.heap.size W w' := by
  have HN := Lib.hid hN
  have HB := Lib.hid (hb.alloc (.cells #[.int .i64 d, .int .i64 a] 110))
  have HP := Lib.hid (Cs.new W 110 #[.int .i64 d, .int .i64 a])
  have HA := Lib.hid hA
  clear hN hb hA
  go_enter Try.func77, Try.ntmps77
  go_wp2_with fail
  go_loopw [10] (fun s wr => ∃ k : Nat, k ≤ N ∧ s = .int .i64 k ∧ Zeros fs k ∧ Below (W.alloc (.cells #[.int .i64 d, .int .i64 a] 110)).heap.size (W.alloc (.cells #[.int .i64 d, .int .i64 a] 110)) wr) (fun s _ => N - (intOf s).toNat)
  case atStart => exact ⟨0, Nat.zero_le _, rfl, fun j hj => absurd hj (by omega), Below.refl _ _⟩
  case round =>
    obtain ⟨k, hk, rfl, hz, hbw⟩ := hrel
    have hB0 : Below W.heap.size W wr := ((Below.refl _ W).alloc (Nat.le_refl _) _).trans (hbw.mono (by simp))
    by_cases hlt : k < N
    · obtain ⟨p, hp⟩ : ∃ p, fs[k]? = some p := ⟨_, List.getElem?_eq_getElem (by rw [HN.out]; exact hlt)⟩
      have hc := (HB.out.below hbw HB.out.lt).cell k
      rw [List.getElem?_toArray, fv_at g fs k p hp] at hc
      obtain ⟨p0, p1⟩ : wr.cell? ⟨W.heap.size, 0, none⟩ = some (.int .i64 d) ∧ wr.cell? ⟨W.heap.size, 1, none⟩ = some (.int .i64 a) := ⟨(HP.out.below hbw HP.out.lt).cell 0, (HP.out.below hbw HP.out.lt).cell 1⟩
      have HPp := Lib.hid hp
      have HZ := Lib.hid hz
      have t1 : (k : Int) < (N : Int) := by omega
      clear hp hz
      obtain ⟨fn, e0⟩ := p
      have HAk := Lib.hid ((HA.out k (fn, e0) HPp.out).2 HZ.out wr hB0)
      have hcf := (HA.out k (fn, e0) HPp.out).1 wr
      try dsimp only at hc hcf
      go_wp2_with fail
      refine HAk.out.mono ?_
      rintro e w1 ⟨rfl, hb1⟩
      clear hcf hc p0 p1
      try dsimp only at hb1
      have hB1 := hB0.trans (hb1.mono hB0.size)
      have hbw1 := hbw.trans (hb1.mono hbw.size)
      by_cases h0 : e0 = 0
      · have hz0 : (e0 != 0) = false := by simpa using h0
        go_wp2_with fail
        go_roundw
        case rel => exact ⟨k + 1, by omega, by go_num, HZ.out.snoc HPp.out h0, hbw1⟩
        case measure => simp [intOf]; omega
      · have hz0 : (e0 != 0) = true := by simpa using h0
        have HF := Lib.hid (firstE_at fs k (fn, e0) HZ.out HPp.out h0)
        go_wp2_with fail
        go_ret
        exact ⟨by rw [HF.out]; rfl, hB1⟩
    · obtain rfl : k = N := by omega
      have HF := Lib.hid (firstE_zeros fs (by rw [HN.out]; exact hz))
      clear hz
      go_wp2_with fail
      go_ret
      exact ⟨by rw [HF.out]; rfl, hB0⟩

end Go.Proofs.Ytpcjdmbnlhjlaaa

namespace Go.Proofs.Ytpcjdmbnlhjlaaa
set_option linter.unusedVariables false
open Go.RowKit

theorem cLoc_zero {S : DS} {d : Int} (h : S.cLoc d = 0) : 0 ≤ d ∧ d < (S.dr.length : Int) := by
  unfold DS.cLoc at h
  split at h
  · cases h
  · omega
theorem cPla_zero {S : DS} {d a : Int} (h : S.cPla d a = 0) : 0 ≤ a ∧ a < (S.size d : Int) := by
  unfold DS.cPla at h
  split at h
  · cases h
  · omega

def ckPow (S : DS) : Nat × Int := (78, S.cPow)
def ckLoc (S : DS) (d : Int) : Nat × Int := (79, S.cLoc d)
def ckPla (S : DS) (d a : Int) : Nat × Int := (81, S.cPla d a)
def ckMis (S : DS) (d : Int) : Nat × Int := (80, S.cMis d)
def ckWho : Nat × Int := (82, 0)

theorem answers_of {W : World} {F : Nat → Prop} {g : Nat} {S : DS} {d a : Int} (h : DskAt W F g S) (fs : List (Nat × Int))
    (hfs : ∀ k p, fs[k]? = some p → p = ckPow S ∨ p = ckLoc S d ∨ p = ckPla S d a ∨ (p = ckMis S d ∧ (Zeros fs k → S.cLoc d = 0)) ∨ p = ckWho) : Answers W g d a fs := by
  intro k p hp
  rcases hfs k p hp with rfl | rfl | rfl | ⟨rfl, hz⟩ | rfl
  · exact ⟨fun V => by kernel_rfl, fun _ V hb => powered_any V F g S d a (h.keep hb)⟩
  · exact ⟨fun V => by kernel_rfl, fun _ V hb => located_any V F g S d a (h.keep hb)⟩
  · exact ⟨fun V => by kernel_rfl, fun _ V hb => placed_any V F g S d a (h.keep hb)⟩
  · refine ⟨fun V => by kernel_rfl, fun hzz V hb => ?_⟩
    have := cLoc_zero (hz hzz)
    exact present_any V F g S d a (h.keep hb) this.1 this.2
  · exact ⟨fun V => by kernel_rfl, fun _ V hb => whole_any V F g S d a (h.keep hb)⟩

theorem answers5 {W : World} {F : Nat → Prop} {g : Nat} {S : DS} {d a : Int} (h : DskAt W F g S) : Answers W g d a [ckPow S, ckLoc S d, ckPla S d a, ckMis S d, ckWho] := by
  refine answers_of h _ ?_
  intro k p hp
  rcases k with _ | _ | _ | _ | _ | k
  · simp at hp; exact .inl hp.symm
  · simp at hp; exact .inr (.inl hp.symm)
  · simp at hp; exact .inr (.inr (.inl hp.symm))
  · simp at hp; exact .inr (.inr (.inr (.inl ⟨hp.symm, fun hz => hz 1 (by omega)⟩)))
  · simp at hp; exact .inr (.inr (.inr (.inr hp.symm)))
  · simp at hp
theorem answers4 {W : World} {F : Nat → Prop} {g : Nat} {S : DS} {d a : Int} (h : DskAt W F g S) : Answers W g d a [ckPow S, ckLoc S d, ckPla S d a, ckMis S d] := by
  refine answers_of h _ ?_
  intro k p hp
  rcases k with _ | _ | _ | _ | k
  · simp at hp; exact .inl hp.symm
  · simp at hp; exact .inr (.inl hp.symm)
  · simp at hp; exact .inr (.inr (.inl hp.symm))
  · simp at hp; exact .inr (.inr (.inr (.inl ⟨hp.symm, fun hz => hz 1 (by omega)⟩)))
  · simp at hp
theorem answers3 {W : World} {F : Nat → Prop} {g : Nat} {S : DS} {d a : Int} (h : DskAt W F g S) : Answers W g d a [ckPow S, ckLoc S d, ckMis S d] := by
  refine answers_of h _ ?_
  intro k p hp
  rcases k with _ | _ | _ | k
  · simp at hp; exact .inl hp.symm
  · simp at hp; exact .inr (.inl hp.symm)
  · simp at hp; exact .inr (.inr (.inr (.inl ⟨hp.symm, fun hz => hz 1 (by omega)⟩)))
  · simp at hp

theorem firstE_0 (x y z u : Int) : firstE [x, y, z, u, 0] = firstE [x, y, z, u] := by
  simp only [firstE]
  repeat' split
  all_goals simp_all
theorem firstE_all4 {x y z u : Int} (h : firstE [x, y, z, u] = 0) : x = 0 ∧ y = 0 ∧ z = 0 ∧ u = 0 := by
  simp only [firstE] at h
  repeat' split at h
  all_goals simp_all
theorem firstE_all3 {x y z : Int} (h : firstE [x, y, z] = 0) : x = 0 ∧ y = 0 ∧ z = 0 := by
  simp only [firstE] at h
  repeat' split at h
  all_goals simp_all

/-- What a good place is. -/
theorem chk_zero {S : DS} {d a : Int} (h : S.chk d a = 0) : ∃ i j : Nat, d = (i : Int) ∧ a = (j : Int) ∧ i < S.dr.length ∧ j < (S.drv i).1.length ∧ S.down = false ∧ (S.drv i).2.2 = false := by
  obtain ⟨h1, h2, h3, h4⟩ := firstE_all4 h
  have e2 := cLoc_zero h2
  have e3 := cPla_zero h3
  refine ⟨d.toNat, a.toNat, by omega, by omega, by omega, ?_, ?_, ?_⟩
  · unfold DS.size at e3; rw [if_neg (by omega)] at e3; omega
  · unfold DS.cPow at h1; cases hd : S.down
    · rfl
    · rw [hd] at h1; simp at h1
  · unfold DS.cMis at h4; cases hd : (S.drv d.toNat).2.2
    · rfl
    · rw [hd] at h4; simp at h4

def DS.read (S : DS) (d a : Int) : Nat := if S.chk d a = 0 then S.rd d a else 0

set_option maxRecDepth 100000 in
set_option maxHeartbeats 1000000 in
theorem aread_any (W : World) (F : Nat → Prop) (g : Nat) (S : DS) (d a : Int) (h : DskAt W F g S) :
    Calls Try.prog 75 #[.pointer (some ⟨g, 0, none⟩), .int .i64 d, .int .i64 a] W fun e w' => e = .returned (.tuple #[.int .u64 (S.read d a : Int), .int .i64 (S.chk d a)]) ∧ Below W.heap.size W w' := by
  have hb0 := (Below.refl _ W).alloc (Nat.le_refl _) (.cells (fv g [ckPow S, ckLoc S d, ckPla S d a, ckMis S d, ckWho]).toArray 147)
  have HDk := Lib.hid (h.keep hb0)
  have HB := Lib.hid (Cs.new W 147 (fv g [ckPow S, ckLoc S d, ckPla S d a, ckMis S d, ckWho]).toArray)
  have HE : Hid (firstE ([ckPow S, ckLoc S d, ckPla S d a, ckMis S d, ckWho].map (·.2)) = S.chk d a) := firstE_0 _ _ _ _
  go_enter Try.func75, Try.ntmps75
  go_wp2_with fail
  refine (check_any _ g W.heap.size 5 d a [ckPow S, ckLoc S d, ckPla S d a, ckMis S d, ckWho] rfl (by omega) HB.out (answers5 HDk.out)).mono ?_
  rintro e w1 ⟨rfl, hb1⟩
  rw [HE.out]
  have hB1 := hb0.trans (hb1.mono hb0.size)
  by_cases h0 : S.chk d a = 0
  · obtain ⟨i, j, rfl, rfl, hi, hj, hdn, hms⟩ := chk_zero h0
    have HR : Hid (S.read (i : Int) (j : Int) = (S.drv i).1[j]?.getD 0) := by show _ = _; unfold DS.read; rw [if_pos h0]; rfl
    rw [h0]
    obtain ⟨ho, dv, lv, mb, zs, hl, hin⟩ := HDk.out.keep hb1
    obtain ⟨x0, x1, x2, x3, x4, x5⟩ := hl.cells
    obtain ⟨b, cap, z, rfl, hcl, hz, hzm, hx, c0, c1, c2⟩ := hl.one i hi
    have hnd := ho.nd
    have hcn := hl.now z hzm
    rw [← hx] at hj HR
    have hcc := hcn.cell j
    rw [List.getElem?_toArray, uv_at _ _ hj] at hcc
    have hsz : z.x.1.length ≤ 65536 := (ho.drv z.x (by rw [hl.dr]; exact List.mem_map_of_mem hzm)).2.2.2
    have H0 := Lib.hid h0
    generalize z.x.1[j]?.getD 0 = v at *
    generalize z.x.1.length = n at *
    clear hl ho hin hz hzm hx c1 c2 x1 x2 x3 x4 x5 h hdn hms hcn h0
    generalize S.dr.length = nd at *
    have t1 : (0 : Int) ≤ (i : Int) := by omega
    have t2 : (i : Int) < (nd : Int) := by omega
    have t3 : (0 : Int) ≤ (j : Int) := by omega
    have t4 : (j : Int) < (n : Int) := by omega
    go_wp2_with fail
    go_ret2
    exact ⟨by rw [HR.out, H0.out]; rfl, hB1⟩
  · have hz0 : (S.chk d a != 0) = true := by simpa using h0
    have HR : Hid (S.read d a = 0) := by show _ = _; unfold DS.read; rw [if_neg h0]
    clear h0
    go_wp2_with fail
    go_ret2
    exact ⟨by rw [HR.out]; rfl, hB1⟩

end Go.Proofs.Ytpcjdmbnlhjlaaa

namespace Go.Proofs.Ytpcjdmbnlhjlaaa
set_option linter.unusedVariables false
open Go.RowKit

theorem cs_own_ne {W : World} {b base n : Nat} {t e : TypeId} {cs : Array Value} {size : Nat} {v : Value} {xs : List Value} (h : Cs W b t cs) (hr : W.ownsRow base e size v n xs) (hne : t ≠ e) : ∀ b', v.ownBlock = some b' → b' ≠ b := by
  intro b' hv hbb
  subst hbb
  rcases hr.2 with ⟨rfl, _⟩ | ⟨g, cap, cur, rfl, _, hg, _⟩
  · simp [Value.ownBlock] at hv
  · obtain rfl : g = b' := by simpa [Value.ownBlock] using hv
    unfold Cs at h
    rw [h] at hg
    simp at hg
    exact hne hg.2
theorem own_own_ne {W : World} {base base' n n' : Nat} {e e' : TypeId} {size size' : Nat} {v v' : Value} {xs xs' : List Value} (h : W.ownsRow base e size v n xs) (hr : W.ownsRow base' e' size' v' n' xs') (hne : e ≠ e') : ∀ b b', v.ownBlock = some b → v'.ownBlock = some b' → b ≠ b' := by
  intro b b' hv hv' hbb
  subst hbb
  rcases h.2 with ⟨rfl, _⟩ | ⟨g, cap, cur, rfl, _, hg, _⟩
  · simp [Value.ownBlock] at hv
  · obtain rfl : g = b := by simpa [Value.ownBlock] using hv
    exact cs_own_ne (W := W) (b := g) (cs := cur) (t := e) hg hr hne g hv' rfl
theorem cs_ne {W : World} {b b' : Nat} {t e : TypeId} {cs cs' : Array Value} (h : Cs W b t cs) (h' : Cs W b' e cs') (hne : t ≠ e) : b' ≠ b := by
  rintro rfl
  unfold Cs at h h'
  rw [h] at h'
  simp at h'
  exact hne h'.2
theorem cs_map_ne {W : World} {b mb : Nat} {t : TypeId} {cs : Array Value} (h : Cs W b t cs) (h' : W.heap[mb]? = some (.map #[] 0)) : mb ≠ b := by
  rintro rfl
  unfold Cs at h
  rw [h] at h'
  cases h'
theorem own_map_ne {W : World} {base n mb : Nat} {e : TypeId} {size : Nat} {v : Value} {xs : List Value} (h : W.ownsRow base e size v n xs) (h' : W.heap[mb]? = some (.map #[] 0)) : ∀ b, v.ownBlock = some b → mb ≠ b := by
  intro b hv hbb
  subst hbb
  rcases h.2 with ⟨rfl, _⟩ | ⟨g, cap, cur, rfl, _, hg, _⟩
  · simp [Value.ownBlock] at hv
  · obtain rfl : g = mb := by simpa [Value.ownBlock] using hv
    rw [hg] at h'
    cases h'

/-- All but the array's own block. -/
structure DRest (W : World) (S : DS) (dv lv : Value) (mb : Nat) (zs : List Dl) : Prop where
  drv : W.ownsRow 0 89 3 dv S.dr.length (dcells zs)
  map : W.heap[mb]? = some (.map #[] 0)
  log : W.ownsRow 0 112 3 lv S.log.length (rcells S.log)
  dr : S.dr = zs.map Dl.x
  now : ∀ z ∈ zs, Cs W z.nb 32 (uv z.x.1).toArray
  dur : ∀ z ∈ zs, Cs W z.db 32 (uv z.x.2.1).toArray
  apart : (zs.flatMap fun z => [z.nb, z.db]).Nodup
theorem DLay.rest {W : World} {g : Nat} {S : DS} {dv lv : Value} {mb : Nat} {zs : List Dl} (h : DLay W g S dv lv mb zs) : DRest W S dv lv mb zs := ⟨h.drv, h.map, h.log, h.dr, h.now, h.dur, h.apart⟩
theorem DRest.lay {W : World} {g : Nat} {S : DS} {dv lv : Value} {mb : Nat} {zs : List Dl} (h : DRest W S dv lv mb zs) (ha : Cs W g 86 #[dv, .map (some mb), lv, .int .i64 S.fuse, .bool S.down, .int .i64 S.wr]) : DLay W g S dv lv mb zs := ⟨ha, h.drv, h.map, h.log, h.dr, h.now, h.dur, h.apart⟩
theorem DRest.of {W : World} {S S' : DS} {dv lv : Value} {mb : Nat} {zs : List Dl} (h : DRest W S dv lv mb zs) (h1 : S'.dr = S.dr) (h2 : S'.log = S.log) : DRest W S' dv lv mb zs :=
  ⟨by rw [h1]; exact h.drv, h.map, by rw [h2]; exact h.log, by rw [h1]; exact h.dr, h.now, h.dur, h.apart⟩
theorem DRest.fr {W W' : World} {G : Nat → Prop} {S : DS} {dv lv : Value} {mb : Nat} {zs : List Dl} (h : DRest W S dv lv mb zs) (hf : Fr G W W')
    (n1 : ∀ b, dv.ownBlock = some b → ¬ G b) (n2 : ¬ G mb) (n3 : ∀ b, lv.ownBlock = some b → ¬ G b) (n4 : ∀ z ∈ zs, ¬ G z.nb ∧ ¬ G z.db) : DRest W' S dv lv mb zs :=
  ⟨own_fr h.drv hf n1, (hf.block mb (map_lt h.map) n2).trans h.map, own_fr h.log hf n3, h.dr, fun z hz => (h.now z hz).fr hf (n4 z hz).1, fun z hz => (h.dur z hz).fr hf (n4 z hz).2, h.apart⟩
theorem fr_set (W : World) (b i : Nat) (u : Value) : Fr (fun j => j = b) W (W.setCell ⟨b, i, none⟩ u) := (Fr.refl (fun j => j = b) W).set (.inl rfl) u

/-- A cell of the array's own block is set. -/
theorem DLay.setArr {W : World} {g : Nat} {S : DS} {dv lv : Value} {mb : Nat} {zs : List Dl} (h : DLay W g S dv lv mb zs) (k : Nat) (u : Value) : DRest (W.setCell ⟨g, k, none⟩ u) S dv lv mb zs :=
  h.rest.fr (fr_set W g k u) (cs_own_ne h.arr h.drv (by decide)) (cs_map_ne h.arr h.map) (cs_own_ne h.arr h.log (by decide))
    (fun z hz => ⟨cs_ne h.arr (h.now z hz) (by decide), cs_ne h.arr (h.dur z hz) (by decide)⟩)
theorem DLay.arrSet {W : World} {g : Nat} {S : DS} {dv lv : Value} {mb : Nat} {zs : List Dl} (h : DLay W g S dv lv mb zs) (k : Nat) (u : Value) :
    Cs (W.setCell ⟨g, k, none⟩ u) g 86 ((#[dv, .map (some mb), lv, .int .i64 S.fuse, .bool S.down, .int .i64 S.wr] : Array Value).setIfInBounds k u) := heap_setCell_same W g k _ _ u h.arr
theorem DLay.setFuse {W : World} {g : Nat} {S : DS} {dv lv : Value} {mb : Nat} {zs : List Dl} (h : DLay W g S dv lv mb zs) (f : Int) : DLay (W.setCell ⟨g, 3, none⟩ (.int .i64 f)) g { S with fuse := f } dv lv mb zs :=
  ((h.setArr 3 _).of (S' := { S with fuse := f }) rfl rfl).lay (h.arrSet 3 _)
theorem DLay.setDown {W : World} {g : Nat} {S : DS} {dv lv : Value} {mb : Nat} {zs : List Dl} (h : DLay W g S dv lv mb zs) (b : Bool) : DLay (W.setCell ⟨g, 4, none⟩ (.bool b)) g { S with down := b } dv lv mb zs :=
  ((h.setArr 4 _).of (S' := { S with down := b }) rfl rfl).lay (h.arrSet 4 _)
theorem DLay.setWr {W : World} {g : Nat} {S : DS} {dv lv : Value} {mb : Nat} {zs : List Dl} (h : DLay W g S dv lv mb zs) (x : Int) : DLay (W.setCell ⟨g, 5, none⟩ (.int .i64 x)) g { S with wr := x } dv lv mb zs :=
  ((h.setArr 5 _).of (S' := { S with wr := x }) rfl rfl).lay (h.arrSet 5 _)

theorem nodup_apart {zs : List Dl} (h : (zs.flatMap fun z => [z.nb, z.db]).Nodup) : ∀ (i k : Nat) (z y : Dl), zs[i]? = some z → zs[k]? = some y → z.nb ≠ y.db ∧ (i ≠ k → z.nb ≠ y.nb ∧ z.db ≠ y.db) := by
  induction zs with
  | nil => intro i k z y hz; simp at hz
  | cons x r ih =>
    simp only [List.flatMap_cons, List.cons_append, List.nil_append, List.nodup_cons, List.mem_cons, List.mem_flatMap, not_or, not_exists, not_and] at h
    obtain ⟨⟨h1, h2⟩, h3, h4⟩ := h
    intro i k z y hz hy
    rcases i with _ | i <;> rcases k with _ | k
    · simp at hz hy; subst hz; subst hy; exact ⟨h1, fun e => absurd rfl e⟩
    · simp at hz hy
      subst hz
      have hm := List.mem_of_getElem? hy
      have a := h2 y hm
      have b := h3 y hm
      simp at a b
      exact ⟨a.2, fun _ => ⟨a.1, b.2⟩⟩
    · simp at hz hy
      subst hy
      have hm := List.mem_of_getElem? hz
      have a := h2 z hm
      have b := h3 z hm
      simp at a b
      exact ⟨fun e => b.1 e.symm, fun _ => ⟨fun e => a.1 e.symm, fun e => b.2 e.symm⟩⟩
    · simp at hz hy
      have := ih h4 i k z y hz hy
      exact ⟨this.1, fun e => this.2 (by omega)⟩

theorem dcells_set (zs : List Dl) (i : Nat) (z z' : Dl) (h : zs[i]? = some z) (hc : z'.cells = z.cells) : dcells (zs.set i z') = dcells zs := by
  induction zs generalizing i with
  | nil => simp at h
  | cons y r ih =>
    rcases i with _ | i
    · simp at h; subst h; simp [dcells, hc]
    · have := ih i (by simpa using h)
      simp only [List.set_cons_succ, dcells, List.flatMap_cons] at this ⊢
      rw [this]
theorem apart_set (zs : List Dl) (i : Nat) (z z' : Dl) (h : zs[i]? = some z) (h1 : z'.nb = z.nb) (h2 : z'.db = z.db) : (zs.set i z').flatMap (fun z => [z.nb, z.db]) = zs.flatMap (fun z => [z.nb, z.db]) := by
  induction zs generalizing i with
  | nil => simp at h
  | cons y r ih =>
    rcases i with _ | i
    · simp at h; subst h; simp [h1, h2]
    · have := ih i (by simpa using h)
      simp only [List.set_cons_succ, List.flatMap_cons] at this ⊢
      rw [this]

def DS.setNow (S : DS) (i j v : Nat) : DS := { S with dr := S.dr.set i ((S.drv i).1.set j v, (S.drv i).2.1, (S.drv i).2.2) }
def DS.setDur (S : DS) (i j v : Nat) : DS := { S with dr := S.dr.set i ((S.drv i).1, (S.drv i).2.1.set j v, (S.drv i).2.2) }

theorem set_mem {α : Type} (l : List α) (i : Nat) (a : α) (y : α) (h : y ∈ l.set i a) : ∃ k, (l.set i a)[k]? = some y ∧ k < l.length := by
  obtain ⟨k, hk, e⟩ := List.getElem_of_mem h
  exact ⟨k, by rw [List.getElem?_eq_getElem hk, e], by simpa using hk⟩

/-- A sector's value is set. -/
theorem DLay.now_set {W : World} {g : Nat} {S : DS} {dv lv : Value} {mb : Nat} {zs : List Dl} (h : DLay W g S dv lv mb zs) (i j v : Nat) (z : Dl) (hz : zs[i]? = some z) (hx : z.x = S.drv i) :
    DLay (W.setCell ⟨z.nb, j, none⟩ (.int .u64 (v : Int))) g (S.setNow i j v) dv lv mb (zs.set i ⟨z.nb, z.db, (z.x.1.set j v, z.x.2.1, z.x.2.2)⟩) := by
  have hf := fr_set W z.nb j (.int .u64 (v : Int))
  have hzm := List.mem_of_getElem? hz
  have hcz := h.now z hzm
  have hcell : (⟨z.nb, z.db, (z.x.1.set j v, z.x.2.1, z.x.2.2)⟩ : Dl).cells = z.cells := by simp [Dl.cells]
  have hlen : (S.setNow i j v).dr.length = S.dr.length := by simp [DS.setNow]
  have hil : i < zs.length := (List.getElem?_eq_some_iff.1 hz).1
  refine ⟨h.arr.fr hf (Ne.symm (cs_ne h.arr hcz (by decide))), ?_, (hf.block mb (map_lt h.map) (cs_map_ne hcz h.map)).trans h.map, own_fr h.log hf (cs_own_ne hcz h.log (by decide)), ?_, ?_, ?_, ?_⟩
  · rw [hlen, dcells_set zs i z _ hz hcell]
    exact own_fr h.drv hf (cs_own_ne hcz h.drv (by decide))
  · simp only [DS.setNow, List.map_set, ← hx]
    rw [h.dr]
  · intro y hy
    obtain ⟨k, hk, hkl⟩ := set_mem _ _ _ _ hy
    by_cases e : k = i
    · subst e
      rw [List.getElem?_set_self hil] at hk
      injection hk with hk
      subst hk
      have := heap_setCell_same W z.nb j (uv z.x.1).toArray 32 (.int .u64 (v : Int)) hcz
      show (W.setCell _ _).heap[z.nb]? = _
      rw [this, ← uv_set]
      simp
    · rw [List.getElem?_set_ne (Ne.symm e)] at hk
      exact (h.now y (List.mem_of_getElem? hk)).fr hf ((nodup_apart h.apart k i y z hk hz).2 e).1
  · intro y hy
    obtain ⟨k, hk, hkl⟩ := set_mem _ _ _ _ hy
    by_cases e : k = i
    · subst e
      rw [List.getElem?_set_self hil] at hk
      injection hk with hk
      subst hk
      exact (h.dur z hzm).fr hf (Ne.symm (nodup_apart h.apart k k z z hz hz).1)
    · rw [List.getElem?_set_ne (Ne.symm e)] at hk
      exact (h.dur y (List.mem_of_getElem? hk)).fr hf (Ne.symm (nodup_apart h.apart i k z y hz hk).1)
  · have := h.apart
    rwa [← apart_set zs i z ⟨z.nb, z.db, (z.x.1.set j v, z.x.2.1, z.x.2.2)⟩ hz rfl rfl] at this

/-- What a sector held at the last flush is set. -/
theorem DLay.dur_set {W : World} {g : Nat} {S : DS} {dv lv : Value} {mb : Nat} {zs : List Dl} (h : DLay W g S dv lv mb zs) (i j v : Nat) (z : Dl) (hz : zs[i]? = some z) (hx : z.x = S.drv i) :
    DLay (W.setCell ⟨z.db, j, none⟩ (.int .u64 (v : Int))) g (S.setDur i j v) dv lv mb (zs.set i ⟨z.nb, z.db, (z.x.1, z.x.2.1.set j v, z.x.2.2)⟩) := by
  have hf := fr_set W z.db j (.int .u64 (v : Int))
  have hzm := List.mem_of_getElem? hz
  have hcz := h.dur z hzm
  have hcell : (⟨z.nb, z.db, (z.x.1, z.x.2.1.set j v, z.x.2.2)⟩ : Dl).cells = z.cells := by simp [Dl.cells]
  have hlen : (S.setDur i j v).dr.length = S.dr.length := by simp [DS.setDur]
  have hil : i < zs.length := (List.getElem?_eq_some_iff.1 hz).1
  refine ⟨h.arr.fr hf (Ne.symm (cs_ne h.arr hcz (by decide))), ?_, (hf.block mb (map_lt h.map) (cs_map_ne hcz h.map)).trans h.map, own_fr h.log hf (cs_own_ne hcz h.log (by decide)), ?_, ?_, ?_, ?_⟩
  · rw [hlen, dcells_set zs i z _ hz hcell]
    exact own_fr h.drv hf (cs_own_ne hcz h.drv (by decide))
  · simp only [DS.setDur, List.map_set, ← hx]
    rw [h.dr]
  · intro y hy
    obtain ⟨k, hk, hkl⟩ := set_mem _ _ _ _ hy
    by_cases e : k = i
    · subst e
      rw [List.getElem?_set_self hil] at hk
      injection hk with hk
      subst hk
      exact (h.now z hzm).fr hf (nodup_apart h.apart k k z z hz hz).1
    · rw [List.getElem?_set_ne (Ne.symm e)] at hk
      exact (h.now y (List.mem_of_getElem? hk)).fr hf (nodup_apart h.apart k i y z hk hz).1
  · intro y hy
    obtain ⟨k, hk, hkl⟩ := set_mem _ _ _ _ hy
    by_cases e : k = i
    · subst e
      rw [List.getElem?_set_self hil] at hk
      injection hk with hk
      subst hk
      have := heap_setCell_same W z.db j (uv z.x.2.1).toArray 32 (.int .u64 (v : Int)) hcz
      show (W.setCell _ _).heap[z.db]? = _
      rw [this, ← uv_set]
      simp
    · rw [List.getElem?_set_ne (Ne.symm e)] at hk
      exact (h.dur y (List.mem_of_getElem? hk)).fr hf ((nodup_apart h.apart k i y z hk hz).2 e).2
  · have := h.apart
    rwa [← apart_set zs i z ⟨z.nb, z.db, (z.x.1, z.x.2.1.set j v, z.x.2.2)⟩ hz rfl rfl] at this

/-- The log has become another row. -/
theorem DLay.log_set {W W1 : World} {g : Nat} {S : DS} {dv lv lv' : Value} {mb : Nat} {zs : List Dl} {l' : List (Nat × Nat × Nat)} (h : DLay W g S dv lv mb zs) (hg : W.grownBy W1 lv.ownBlock)
    (hr : W1.ownsRow 0 112 3 lv' l'.length (rcells l')) : DLay (W1.setCell ⟨g, 2, none⟩ lv') g { S with log := l' } dv lv' mb zs ∧ DLay W1 g S dv lv mb zs = DLay W1 g S dv lv mb zs := by
  refine ⟨?_, rfl⟩
  have hf : Fr (fun j => lv.ownBlock = some j) W W1 := ⟨hg.os, hg.tape, hg.output, hg.size, fun j hj hn => hg.block j hj (fun e => hn e.symm)⟩
  have ha : Cs W1 g 86 #[dv, .map (some mb), lv, .int .i64 S.fuse, .bool S.down, .int .i64 S.wr] := h.arr.fr hf (fun e => cs_own_ne h.arr h.log (by decide) g e rfl)
  have hd1 : W1.ownsRow 0 89 3 dv S.dr.length (dcells zs) := own_fr h.drv hf (fun b hb e => own_own_ne h.drv h.log (by decide) b b hb e rfl)
  have hm1 : W1.heap[mb]? = some (.map #[] 0) := (hf.block mb (map_lt h.map) (fun e => own_map_ne h.log h.map mb e rfl)).trans h.map
  have hn1 : ∀ z ∈ zs, Cs W1 z.nb 32 (uv z.x.1).toArray := fun z hz => (h.now z hz).fr hf (fun e => cs_own_ne (h.now z hz) h.log (by decide) z.nb e rfl)
  have hu1 : ∀ z ∈ zs, Cs W1 z.db 32 (uv z.x.2.1).toArray := fun z hz => (h.dur z hz).fr hf (fun e => cs_own_ne (h.dur z hz) h.log (by decide) z.db e rfl)
  have hL : DLay W1 g { S with log := l' } dv lv' mb zs → True := fun _ => trivial
  have hfs := fr_set W1 g 2 lv'
  have hr2 : (W1.setCell ⟨g, 2, none⟩ lv').ownsRow 0 112 3 lv' l'.length (rcells l') := own_fr hr hfs (cs_own_ne ha hr (by decide))
  exact ⟨heap_setCell_same W1 g 2 _ _ lv' ha, own_fr hd1 hfs (cs_own_ne ha hd1 (by decide)), (hfs.block mb (map_lt hm1) (cs_map_ne ha hm1)).trans hm1, hr2, h.dr,
    fun z hz => (hn1 z hz).fr hfs (cs_ne ha (hn1 z hz) (by decide)), fun z hz => (hu1 z hz).fr hfs (cs_ne ha (hu1 z hz) (by decide)), h.apart⟩

end Go.Proofs.Ytpcjdmbnlhjlaaa

namespace Go.Proofs.Ytpcjdmbnlhjlaaa
set_option linter.unusedVariables false
open Go.RowKit
attribute [local go_sem] Oper.semAt_some

def DS.wput (S : DS) (i j v : Nat) : DS := { S.setNow i j v with log := S.log ++ [(i, j, v)], wr := S.wr + 1 }
def DS.burnt (S : DS) : DS := { S with fuse := if 0 < S.fuse then S.fuse - 1 else S.fuse }
def DS.writeE (S : DS) (d a : Int) : Int := if S.chk d a ≠ 0 then S.chk d a else if S.fuse = 1 then 5 else 0
def DS.write (S : DS) (d a : Int) (v : Nat) : DS :=
  if S.chk d a ≠ 0 then S else if S.fuse = 1 then { S with fuse := 0, down := true } else S.burnt.wput d.toNat a.toNat v

theorem DS.Ok.of {S : DS} (h : S.Ok) (f : Int) (b : Bool) (hf : 0 ≤ f ∧ f ≤ 9223372036854775807) : ({ S with fuse := f, down := b } : DS).Ok := ⟨h.nd, h.drv, h.log, hf, h.wr⟩
theorem drv_set (S : DS) (l : List (List Nat × List Nat × Bool)) (i k : Nat) (y : List Nat × List Nat × Bool) (hi : i < l.length) (e : S.dr = l.set i y) : S.drv k = if k = i then y else l[k]?.getD ([], [], false) := by
  unfold DS.drv
  rw [e]
  by_cases h : k = i
  · subst h; simp [hi]
  · rw [if_neg h, List.getElem?_set_ne (Ne.symm h)]
theorem DS.Ok.wput {S : DS} (h : S.Ok) {i j v : Nat} (hi : i < S.dr.length) (hj : j < (S.drv i).1.length) (hv : v < 18446744073709551616) : (S.wput i j v).Ok := by
  have hm : S.drv i ∈ S.dr := by unfold DS.drv; rw [List.getElem?_eq_getElem hi]; exact List.getElem_mem _
  have hd := h.drv _ hm
  have hlen : ∀ k, ((S.wput i j v).drv k).1.length = (S.drv k).1.length := by
    intro k
    rw [drv_set (S.wput i j v) S.dr i k _ hi rfl]
    by_cases e : k = i
    · subst e; rw [if_pos rfl]; simp
    · rw [if_neg e]; rfl
  refine ⟨by simp only [DS.wput, DS.setNow, List.length_set]; exact h.nd, ?_, ?_, h.fuse, by simp only [DS.wput]; have := h.wr; omega⟩
  · intro x hx
    simp only [DS.wput, DS.setNow] at hx
    rcases List.mem_or_eq_of_mem_set hx with hx | rfl
    · exact h.drv x hx
    · exact ⟨hd.1.set _ _ hv, hd.2.1, by simp; exact hd.2.2.1, by simp; exact hd.2.2.2⟩
  · intro r hr
    rw [hlen]
    simp only [DS.wput, DS.setNow, List.length_set] at hr ⊢
    rcases List.mem_append.1 hr with hr | hr
    · exact h.log r hr
    · simp at hr; subst hr; exact ⟨hi, hj, hv⟩

theorem rcells_snoc (l : List (Nat × Nat × Nat)) (r : Nat × Nat × Nat) : rcells (l ++ [r]) = rcells l ++ [.int .i64 (r.1 : Int), .int .i64 (r.2.1 : Int), .int .u64 (r.2.2 : Int)] := by simp [rcells]
theorem rcells_one (l : List (Nat × Nat × Nat)) : ∀ u ∈ rcells l, u.oneCell' = true := by
  intro u hu
  simp only [rcells, List.mem_flatMap, List.mem_cons, List.not_mem_nil, or_false] at hu
  obtain ⟨r, _, rfl | rfl | rfl⟩ := hu <;> rfl
theorem record_info : (Try.prog.info? 112).map (fun i => (i.zero, i.size, i.bytes)) = some (some (.agg #[.int .i64 0, .int .i64 0, .int .u64 0]), 3, 24) := by kernel_rfl

theorem DLay.keep {W W' : World} {g : Nat} {S : DS} {dv lv : Value} {mb : Nat} {zs : List Dl} (h : DLay W g S dv lv mb zs) (hb : Below W.heap.size W W') : DLay W' g S dv lv mb zs :=
  ⟨h.arr.below hb h.arr.lt, own_keepB h.drv hb, (hb.block mb (map_lt h.map)).trans h.map, own_keepB h.log hb, h.dr, fun z hz => (h.now z hz).below hb (h.now z hz).lt, fun z hz => (h.dur z hz).below hb (h.dur z hz).lt, h.apart⟩

def WriteP (W : World) (F : Nat → Prop) (g : Nat) (S : DS) (d a : Int) (v : Nat) (e : Ending) (W' : World) : Prop :=
  e = .returned (.int .i64 (S.writeE d a)) ∧ ∃ F', DskAt W' F' g (S.write d a v) ∧ Turn F F' W W'

def wider (F : Nat → Prop) (W : World) : Nat → Prop := fun j => F j ∨ W.heap.size ≤ j
theorem DIn.wider {F : Nat → Prop} {g : Nat} {dv lv : Value} {mb : Nat} {zs : List Dl} (h : DIn F g dv lv mb zs) (W : World) : DIn (wider F W) g dv lv mb zs :=
  ⟨.inl h.arr, .inl h.map, fun b hb => .inl (h.drv b hb), fun b hb => .inl (h.log b hb), fun z hz => .inl (h.now z hz), fun z hz => .inl (h.dur z hz)⟩
theorem turn_wider {F : Nat → Prop} {W W' : World} (h : Fr F W W') : Turn F (wider F W) W W' := ⟨h, fun j hj => hj⟩
theorem DIn.setz {F : Nat → Prop} {g : Nat} {dv lv : Value} {mb : Nat} {zs : List Dl} (h : DIn F g dv lv mb zs) (i : Nat) (z z' : Dl) (hz : zs[i]? = some z) (h1 : z'.nb = z.nb) (h2 : z'.db = z.db) : DIn F g dv lv mb (zs.set i z') := by
  have hm := List.mem_of_getElem? hz
  refine ⟨h.arr, h.map, h.drv, h.log, fun y hy => ?_, fun y hy => ?_⟩
  · rcases List.mem_or_eq_of_mem_set hy with hy | rfl
    · exact h.now y hy
    · rw [h1]; exact h.now z hm
  · rcases List.mem_or_eq_of_mem_set hy with hy | rfl
    · exact h.dur y hy
    · rw [h2]; exact h.dur z hm

set_option maxRecDepth 100000 in
set_option maxHeartbeats 2000000 in
theorem awrite_any (W : World) (F : Nat → Prop) (g : Nat) (S : DS) (d a : Int) (v : Nat) (h : DskAt W F g S) (hv : v < 18446744073709551616) (hlog : S.log.length ≤ 1000000) (hwr : S.wr ≤ 1000000000) :
    Calls Try.prog 76 #[.pointer (some ⟨g, 0, none⟩), .int .i64 d, .int .i64 a, .int .u64 (v : Int)] W (WriteP W F g S d a v) := by
  have hb0 := ((Below.refl _ W).alloc (Nat.le_refl _) (.cells #[.int .i64 d, .int .i64 a] 110)).alloc (by simp) (.cells (fv g [ckPow S, ckLoc S d, ckPla S d a, ckMis S d]).toArray 147)
  have HDk := Lib.hid (h.keep hb0)
  have HB := Cs.new (W.alloc (.cells #[.int .i64 d, .int .i64 a] 110)) 147 (fv g [ckPow S, ckLoc S d, ckPla S d a, ckMis S d]).toArray
  rw [World.size_alloc] at HB
  have HB := Lib.hid HB
  have HP := Lib.hid ((Cs.new W 110 #[.int .i64 d, .int .i64 a]).alloc (.cells (fv g [ckPow S, ckLoc S d, ckPla S d a, ckMis S d]).toArray 147))
  have HE : Hid (firstE ([ckPow S, ckLoc S d, ckPla S d a, ckMis S d].map (·.2)) = S.chk d a) := rfl
  have hgW := h.lt.1
  go_enter Try.func76, Try.ntmps76
  go_wp2_with fail
  refine (check_any _ g (W.heap.size + 1) 4 d a [ckPow S, ckLoc S d, ckPla S d a, ckMis S d] rfl (by omega) HB.out (answers4 HDk.out)).mono ?_
  rintro e w1 ⟨rfl, hb1⟩
  rw [HE.out]
  have hB1 := hb0.trans (hb1.mono hb0.size)
  have HD1 := Lib.hid (HDk.out.keep hb1)
  have HP1 := Lib.hid (HP.out.below hb1 HP.out.lt)
  clear HB HP HDk hb1
  by_cases h0 : S.chk d a = 0
  · have HC0 := Lib.hid h0
    rw [h0]
    obtain ⟨i, j, rfl, rfl, hi, hj, hdn, hms⟩ := chk_zero h0
    obtain ⟨ho, dv, lv, mb, zs, hl, hin⟩ := HD1.out
    have HL := Lib.hid hl
    obtain ⟨x0, x1, x2, x3, x4, x5⟩ := hl.cells
    have f3 : w1.frozen? ⟨g, 3, none⟩ = false := hl.arr.free 3
    have f4 : w1.frozen? ⟨g, 4, none⟩ = false := hl.arr.free 4
    have hfu := ho.fuse
    clear h0 hdn hms hl x0 x1 x2 x4 x5
    have x4 := HL.out.cells.2.2.2.2.1
    go_upto_if 32 with (fail)
    go_cut [] (fun wx => DLay wx g S.burnt dv lv mb zs ∧ Fr F W wx ∧ Cs wx W.heap.size 110 #[.int .i64 (i : Int), .int .i64 (j : Int)] ∧ Hid (S.fuse ≠ 1))
    case first =>
      rcases Nat.lt_trichotomy S.fuse.toNat 1 with hfz | hfz | hfz
      · have hz1 : ¬ 0 < S.fuse := by omega
        have HBu : Hid (S.burnt = S) := by show _ = _; unfold DS.burnt; rw [if_neg hz1]
        have h1 : Hid (S.fuse ≠ 1) := by show _ ≠ _; omega
        go_wp2_with fail
        go_meet
        case rel => exact ⟨by rw [HBu.out]; exact HL.out, Fr.of_below hB1, HP1.out, h1⟩
      · have hS1 : S.fuse = 1 := by omega
        have HR : Hid (S.writeE (i : Int) (j : Int) = 5) := by show _ = _; unfold DS.writeE; rw [if_neg (by simpa using HC0.out), if_pos hS1]
        have HWr : Hid (S.write (i : Int) (j : Int) v = { S with fuse := 0, down := true }) := by show _ = _; unfold DS.write; rw [if_neg (by simpa using HC0.out), if_pos hS1]
        have HL3 := Lib.hid ((HL.out.setFuse 0).setDown true)
        have hOk := ho.of 0 true ⟨by omega, by omega⟩
        have hz1 : 0 < S.fuse := by omega
        rw [hS1] at x3
        clear hS1 hfz hfu
        have hFr : Fr F W ((w1.setCell ⟨g, 3, none⟩ (.int .i64 0)).setCell ⟨g, 4, none⟩ (.bool true)) := ((Fr.of_below hB1).set (.inl hin.arr) _).set (.inl hin.arr) _
        go_wp2_with fail
        go_ret
        exact ⟨by rw [HR.out]; rfl, F, by rw [HWr.out]; exact ⟨hOk, dv, lv, mb, zs, HL3.out, hin⟩, hFr, fun j hj => .inl hj⟩
      · have hz1 : 0 < S.fuse := by omega
        have hz2 : (S.fuse - 1 == 0) = false := by rw [beq_eq_false_iff_ne]; omega
        have HBu : Hid (S.burnt = { S with fuse := S.fuse - 1 }) := by show _ = _; unfold DS.burnt; rw [if_pos hz1]
        have h1 : Hid (S.fuse ≠ 1) := by show _ ≠ _; omega
        have HL3 := Lib.hid (HL.out.setFuse (S.fuse - 1))
        have hFr : Fr F W (w1.setCell ⟨g, 3, none⟩ (.int .i64 (S.fuse - 1))) := (Fr.of_below hB1).set (.inl hin.arr) _
        have hPg : Cs (w1.setCell ⟨g, 3, none⟩ (.int .i64 (S.fuse - 1))) W.heap.size 110 #[.int .i64 (i : Int), .int .i64 (j : Int)] := HP1.out.fr (fr_set _ _ _ _) (by show ¬ _ = _; omega)
        go_wp2_with fail
        go_meet
        case rel => exact ⟨by rw [HBu.out]; exact HL3.out, hFr, hPg, h1⟩
    case rest =>
      obtain ⟨hL2, hF2, hP2, hf1⟩ := hcut
      have hOb : S.burnt.Ok := ⟨ho.nd, ho.drv, ho.log, by unfold DS.burnt; dsimp only; split <;> omega, ho.wr⟩
      obtain ⟨b, cap, z, rfl, hcl, hz, hzm, hx, c0, c1, c2⟩ := hL2.one i hi
      have hzj : j < z.x.1.length := by rw [hx]; exact hj
      have hnd := ho.nd
      have hsz := (hOb.drv z.x (by rw [hL2.dr]; exact List.mem_map_of_mem hzm)).2.2.2
      have hcn := hL2.now z hzm
      have hcc := hcn.cell j
      rw [List.getElem?_toArray, uv_at _ _ hzj] at hcc
      have hfn : wc.frozen? ⟨z.nb, j, none⟩ = false := hcn.free j
      have x0 := hL2.cells.1
      have HL3 := Lib.hid (hL2.now_set i j v z hz hx)
      have hF3 := hF2.set (b := z.nb) (i := j) (.inl (hin.now z hzm)) (.int .u64 (v : Int))
      have HP3 := Lib.hid (hP2.fr (fr_set wc z.nb j (.int .u64 (v : Int))) (by show ¬ _ = _; have := cs_ne hP2 hcn (by decide); omega))
      have hin3 := hin.setz i z ⟨z.nb, z.db, (z.x.1.set j v, z.x.2.1, z.x.2.2)⟩ hz rfl rfl
      have HX := Lib.hid hx
      have hdl : S.burnt.dr.length = S.dr.length := rfl
      generalize hznb : z.nb = nb at *
      generalize z.x.1[j]?.getD 0 = v0 at *
      generalize hln : z.x.1.length = n at *
      rw [hdl] at x0
      have hdi : i < S.burnt.dr.length := hi
      generalize S.dr.length = nd at *
      have t1 : (0 : Int) ≤ (i : Int) := by omega
      have t2 : (i : Int) < (nd : Int) := by omega
      have t3 : (0 : Int) ≤ (j : Int) := by omega
      have t4 : (j : Int) < (n : Int) := by omega
      clear hL2 hF2 hP2 hz hzm hx c1 c2 hdl
      obtain ⟨Al, cl, hlv⟩ := own_form HL3.out.log
      subst hlv
      go_upto_region 11 with (fail)
      generalize hV : (wc.setCell _ _) = V at HL3 hF3 HP3 ⊢
      clear hV x0 x3 f3 f4 c0 hcc hfn
      have y1 := HL3.out.cells.2.1
      have y2 := HL3.out.cells.2.2.1
      obtain ⟨p0, p1⟩ : V.cell? ⟨W.heap.size, 0, none⟩ = some (.int .i64 (i : Int)) ∧ V.cell? ⟨W.heap.size, 1, none⟩ = some (.int .i64 (j : Int)) := ⟨HP3.out.cell 0, HP3.out.cell 1⟩
      have hmp : V.heap[mb]? = some (.map #[] 0) := HL3.out.map
      have hdel := fun ty => run_bad_delete V.drew mb (i : Int) (j : Int) hmp ty
      refine wp_region_mix 5 5 (by kernel_rfl) (by kernel_rfl) (fun w' => w'.cell? ⟨g, 1, none⟩ = some (.map (some mb)) ∧ w'.cell? ⟨W.heap.size, 0, none⟩ = some (.int .i64 (i : Int)) ∧ w'.cell? ⟨W.heap.size, 1, none⟩ = some (.int .i64 (j : Int))) ⟨y1, p0, p1⟩ ?_
      simp only [List.take_succ_cons, List.take_zero, List.drop_succ_cons, List.drop_zero]
      iterate 5
        refine ⟨?_, Or.inl ⟨by rfl, fun W' hS' => ?_⟩, fun _ _ _ h => h, ?_⟩
        rotate_left
        · obtain ⟨hs1, hs2, hs3⟩ := hS'
          go_simp
          with_reducible rfl
        simp only [Act.put, List.setIfInBounds_toArray, List.set_cons_zero, List.set_cons_succ]
      show wpSeqT _ _ _ _ _ _ _ _ _
      refine wpSeqT_list _ _ _ _ (by omega) ?_
      go_upto_region 12 with (fail)
      obtain ⟨ir, hir, hz0, hz1, hz2⟩ := info_parts record_info
      have hgV : g < V.heap.size := HL3.out.arr.lt
      have hWV : W.heap.size < V.heap.size := HP3.out.lt
      have hlg := cs_own_ne HL3.out.arr HL3.out.log (by decide)
      have hlp := cs_own_ne HP3.out HL3.out.log (by decide)
      have HLd := Lib.hid (HL3.out.log)
      refine wp_region_mix 8 12 (by kernel_rfl) (by kernel_rfl) (fun w' => w'.cell? ⟨g, 2, none⟩ = some (.slice Al (S.burnt.setNow i j v).log.length cl) ∧ w'.cell? ⟨W.heap.size, 0, none⟩ = some (.int .i64 (i : Int)) ∧ w'.cell? ⟨W.heap.size, 1, none⟩ = some (.int .i64 (j : Int))) ⟨y2, p0, p1⟩ ?_
      simp only [List.take_succ_cons, List.take_zero, List.drop_succ_cons, List.drop_zero]
      iterate 8
        refine ⟨?_, Or.inl ⟨by rfl, fun W' hS' => ?_⟩, fun _ _ _ h => h, ?_⟩
        rotate_left
        · obtain ⟨hs1, hs2, hs3⟩ := hS'
          go_simp
          with_reducible rfl
        simp only [Act.put, List.setIfInBounds_toArray, List.set_cons_zero, List.set_cons_succ]
      show wpSeqT _ _ _ _ _ _ _ _ _
      refine wpSeqT_step (fun K hK => ?_)
      go_simp
      have q2 := (World.cell?_alloc_lt V (.cells #[.int .i64 (i : Int), .int .i64 (j : Int), .int .u64 (v : Int)] 112) ⟨g, 2, none⟩ hgV).trans y2
      have q3 := (World.cell?_alloc_lt V (.cells #[.int .i64 (i : Int), .int .i64 (j : Int), .int .u64 (v : Int)] 112) ⟨W.heap.size, 0, none⟩ hWV).trans p0
      have q4 := (World.cell?_alloc_lt V (.cells #[.int .i64 (i : Int), .int .i64 (j : Int), .int .u64 (v : Int)] 112) ⟨W.heap.size, 1, none⟩ hWV).trans p1
      refine hK _ _ (fun _ => ⟨q2, q3, q4⟩) ?_
      clear hK K
      refine wpSeqT_step (fun K hK => ?_)
      refine step_append_reads _ (by rfl) (.tmp 68) (.tmp 72) _ (by rfl) 0 112 ir _ 3 24 Try.underlying84 hir hz0 hz1 hz2 rfl (by omega) (.slice Al (S.burnt.setNow i j v).log.length cl) S.log.length (rcells S.log) (by rfl) (World.ownsRow.alloc (World.ownsRow.drew (World.ownsRow.drew HLd.out)) _) (some ⟨V.heap.size, 0, none⟩) 1 1 [.int .i64 (i : Int), .int .i64 (j : Int), .int .u64 (v : Int)] (by rfl) (by rfl) (Reads.new _ _ _) (by simp [Value.oneCell']) (by simp only [maxLen]; omega) (by omega) (Nat.zero_le _) ?_
      intro v5 w5 hown5 hg5 hat5
      obtain ⟨A5, c5, hv5⟩ := own_form hown5
      subst hv5
      have s2 := hg5.cell (a := ⟨g, 2, none⟩) q2 (fun e => hlg g e.symm rfl)
      have s3 := hg5.cell (a := ⟨W.heap.size, 0, none⟩) q3 (fun e => hlp _ e.symm rfl)
      have s4 := hg5.cell (a := ⟨W.heap.size, 1, none⟩) q4 (fun e => hlp _ e.symm rfl)
      refine hK _ _ (fun _ => ⟨s2, s3, s4⟩) ?_
      clear hK K q2 q3 q4
      simp only [Act.put, List.setIfInBounds_toArray, List.set_cons_zero, List.set_cons_succ]
      iterate 2
        refine wpSeqT_step (fun K hK => ?_)
        go_simp
        refine hK _ _ (fun _ => ⟨s2, s3, s4⟩) ?_
        clear hK K
      refine wpSeqT_list _ _ _ _ (by omega) ?_
      have hbV : Below V.heap.size V (V.drew.drew.alloc (.cells #[.int .i64 (i : Int), .int .i64 (j : Int), .int .u64 (v : Int)] 112)) := (((Below.refl _ V).drew).drew).alloc (Nat.le_refl _) _
      have hLa := HL3.out.keep hbV
      have hr5 : w5.ownsRow 0 112 3 (.slice A5 (S.log.length + 1) c5) (S.log ++ [(i, j, v)]).length (rcells (S.log ++ [(i, j, v)])) := by
        rw [rcells_snoc, List.length_append]; exact hown5
      have HLf := Lib.hid ((hLa.log_set (l' := S.log ++ [(i, j, v)]) hg5 hr5).1.setWr (S.wr + 1))
      have hA5 := hLa.arr.grown hg5 (fun e => hlg g e.symm rfl)
      have u5 : w5.cell? ⟨g, 5, none⟩ = some (.int .i64 S.wr) := hA5.cell 5
      have f2 := hA5.free 2
      have f5 := hA5.free 5
      have hFa : Fr F W w5 := ((hF3.drew).drew.alloc _).trans (Fr.mono (G := fun k => (Value.slice Al (S.burnt.setNow i j v).log.length cl).ownBlock = some k) ⟨hg5.os, hg5.tape, hg5.output, hg5.size, fun k hk hn => hg5.block k hk (fun e => hn e.symm)⟩ (fun k _ hk => hin3.log k hk))
      have hFf := (hFa.set (i := 2) (.inl hin.arr) (.slice A5 (S.log.length + 1) c5)).set (i := 5) (.inl hin.arr) (.int .i64 (S.wr + 1))
      have hdf : DIn (wider F W) g (.slice (some ⟨b, 0, none⟩) S.burnt.dr.length cap) (.slice A5 (S.log.length + 1) c5) mb (zs.set i ⟨nb, z.db, (z.x.1.set j v, z.x.2.1, z.x.2.2)⟩) := by
        have hw := hin3.wider W
        refine ⟨hw.arr, hw.map, hw.drv, fun k hk => ?_, hw.now, hw.dur⟩
        rcases hat5 with e | e
        · rw [e] at hk; exact hw.log k hk
        · rw [e] at hk; injection hk with hk
          refine .inr ?_
          rw [← hk]
          simp; omega
      have hOk := hOb.wput (i := i) (j := j) (v := v) hdi (by exact hj) hv
      have HR : Hid (S.writeE (i : Int) (j : Int) = 0) := by show _ = _; unfold DS.writeE; rw [if_neg (by simpa using HC0.out), if_neg hf1.out]
      have HWr : Hid (S.write (i : Int) (j : Int) v = S.burnt.wput i j v) := by show _ = _; unfold DS.write; rw [if_neg (by simpa using HC0.out), if_neg hf1.out, Int.toNat_natCast, Int.toNat_natCast]
      have hw0 := ho.wr
      clear hown5 hg5 hat5 hr5 hLa hA5 s3 s4 y1 y2 p0 p1 hmp hdel
      go_wp2_with fail
      go_ret
      exact ⟨by rw [HR.out]; rfl, wider F W, by rw [HWr.out]; exact ⟨hOk, _, _, mb, _, HLf.out, hdf⟩, turn_wider hFf⟩
  · have hz0 : (S.chk d a != 0) = true := by simpa using h0
    have HR : Hid (S.writeE d a = S.chk d a) := by show _ = _; unfold DS.writeE; rw [if_pos h0]
    have HW : Hid (S.write d a v = S) := by show _ = _; unfold DS.write; rw [if_pos h0]
    clear h0
    go_wp2_with fail
    go_ret
    exact ⟨by rw [HR.out]; rfl, F, by rw [HW.out]; exact HD1.out, Turn.of_below hB1⟩

end Go.Proofs.Ytpcjdmbnlhjlaaa
