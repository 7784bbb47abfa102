/-
  A mover over two disks, in memory.
-/
import Derived.Test.YtpcjdmbnlhjlaaaRelP
import Derived.Test.YtpcjdmbnlhjlaaaHA
namespace Go.Proofs.Ytpcjdmbnlhjlaaa
set_option linter.unusedVariables false
open Go.RowKit

theorem Turn.set {F F' : Nat → Prop} {W W' : World} (h : Turn F F' W W') {b i : Nat} (hb : F b ∨ W.heap.size ≤ b) (u : Value) : Turn F F' W (W'.setCell ⟨b, i, none⟩ u) := ⟨h.1.set hb u, h.2⟩
theorem Turn.drew {F F' : Nat → Prop} {W W' : World} (h : Turn F F' W W') : Turn F F' W W'.drew := ⟨h.1.drew, h.2⟩

/-- A mover in memory: the disks (in F), the two spans, the mover. All of it lies in Fm. -/
structure MovIn (W : World) (F Fm : Nat → Prop) (g s0 s1 m n : Nat) (S : DS) (ext done : Nat) (cp : Bool) : Prop where
  dsk : DskAt W F g S
  inF : ∀ j, F j → Fm j
  sp0 : SpanAt W s0 g 0 n
  sp1 : SpanAt W s1 g 1 n
  n0 : ¬ F s0
  n1 : ¬ F s1
  i0 : Fm s0
  i1 : Fm s1
  nm : ¬ F m
  im : Fm m
  m0 : m ≠ s0
  m1 : m ≠ s1
  mov : Cs W m 80 #[spanV s0, spanV s1, .int .i64 (ext : Int), .int .i64 (done : Int), .bool cp]
def MovAt (W : World) (Fm : Nat → Prop) (g s0 s1 m n : Nat) (S : DS) (ext done : Nat) (cp : Bool) : Prop := ∃ F, MovIn W F Fm g s0 s1 m n S ext done cp

section
variable {W : World} {F Fm : Nat → Prop} {g s0 s1 m n : Nat} {S : DS} {ext done : Nat} {cp : Bool}
theorem MovIn.tight (h : MovIn W F Fm g s0 s1 m n S ext done cp) : MovIn W (fun j => F j ∧ j < W.heap.size) Fm g s0 s1 m n S ext done cp :=
  ⟨h.dsk.tight, fun j hj => h.inF j hj.1, h.sp0, h.sp1, fun e => h.n0 e.1, fun e => h.n1 e.1, h.i0, h.i1, fun e => h.nm e.1, h.im, h.m0, h.m1, h.mov⟩
theorem MovIn.fr (h : MovIn W F Fm g s0 s1 m n S ext done cp) {W' : World} {G : Nat → Prop} (hf : Fr G W W') (hn : ∀ j, Fm j → ¬ G j) : MovIn W' F Fm g s0 s1 m n S ext done cp :=
  ⟨h.dsk.fr hf (fun j hj => hn j (h.inF j hj)), h.inF, Cs.fr h.sp0 hf (hn _ h.i0), Cs.fr h.sp1 hf (hn _ h.i1), h.n0, h.n1, h.i0, h.i1, h.nm, h.im, h.m0, h.m1, h.mov.fr hf (hn _ h.im)⟩
theorem MovIn.keep (h : MovIn W F Fm g s0 s1 m n S ext done cp) {W' : World} (hb : Below W.heap.size W W') : MovIn W' F Fm g s0 s1 m n S ext done cp := h.fr (G := fun _ => False) (Fr.of_below hb) (fun _ _ h => h)
/-- The disks have done something. -/
theorem MovIn.turn (h : MovIn W F Fm g s0 s1 m n S ext done cp) {W' : World} {F' : Nat → Prop} {S' : DS} (hd : DskAt W' F' g S') (ht : Turn F F' W W') : MovIn W' F' (fun j => Fm j ∨ F' j) g s0 s1 m n S' ext done cp :=
  ⟨hd, fun j hj => .inr hj, Cs.fr h.sp0 ht.1 h.n0, Cs.fr h.sp1 ht.1 h.n1, ht.out (Cs.lt h.sp0) h.n0, ht.out (Cs.lt h.sp1) h.n1, .inl h.i0, .inl h.i1, ht.out h.mov.lt h.nm, .inl h.im, h.m0, h.m1, h.mov.fr ht.1 h.nm⟩
theorem MovIn.wide (h : MovIn W F Fm g s0 s1 m n S ext done cp) {W' : World} {F' : Nat → Prop} (ht : Turn F F' W W') : Turn Fm (fun j => Fm j ∨ F' j) W W' :=
  ⟨ht.1.mono (fun j _ hj => h.inF j hj), fun j hj => hj.elim .inl (fun e => (ht.2 j e).elim (fun e' => .inl (h.inF j e')) .inr)⟩
/-- The mover's numbers are set. -/
theorem MovIn.setD (h : MovIn W F Fm g s0 s1 m n S ext done cp) (d : Nat) : MovIn (W.setCell ⟨m, 3, none⟩ (.int .i64 (d : Int))) F Fm g s0 s1 m n S ext d cp := by
  have hf := fr_set W m 3 (.int .i64 (d : Int))
  exact ⟨h.dsk.fr hf (fun j hj e => h.nm (e ▸ hj)), h.inF, Cs.fr h.sp0 hf (fun e => h.m0 e.symm), Cs.fr h.sp1 hf (fun e => h.m1 e.symm), h.n0, h.n1, h.i0, h.i1, h.nm, h.im, h.m0, h.m1, heap_setCell_same W m 3 _ _ _ h.mov⟩
theorem MovIn.setC (h : MovIn W F Fm g s0 s1 m n S ext done cp) (c : Bool) : MovIn (W.setCell ⟨m, 4, none⟩ (.bool c)) F Fm g s0 s1 m n S ext done c := by
  have hf := fr_set W m 4 (.bool c)
  exact ⟨h.dsk.fr hf (fun j hj e => h.nm (e ▸ hj)), h.inF, Cs.fr h.sp0 hf (fun e => h.m0 e.symm), Cs.fr h.sp1 hf (fun e => h.m1 e.symm), h.n0, h.n1, h.i0, h.i1, h.nm, h.im, h.m0, h.m1, heap_setCell_same W m 4 _ _ _ h.mov⟩
theorem MovAt.fr (h : MovAt W Fm g s0 s1 m n S ext done cp) {W' : World} {G : Nat → Prop} (hf : Fr G W W') (hn : ∀ j, Fm j → ¬ G j) : MovAt W' Fm g s0 s1 m n S ext done cp := by
  obtain ⟨F, h⟩ := h
  exact ⟨F, h.fr hf hn⟩
theorem MovAt.keep (h : MovAt W Fm g s0 s1 m n S ext done cp) {W' : World} (hb : Below W.heap.size W W') : MovAt W' Fm g s0 s1 m n S ext done cp := by
  obtain ⟨F, h⟩ := h
  exact ⟨F, h.keep hb⟩
theorem MovIn.narrow (h : MovIn W F Fm g s0 s1 m n S ext done cp) {Fn : Nat → Prop} (hF : ∀ j, F j → Fn j) (a0 : Fn s0) (a1 : Fn s1) (am : Fn m) : MovIn W F Fn g s0 s1 m n S ext done cp :=
  ⟨h.dsk, hF, h.sp0, h.sp1, h.n0, h.n1, a0, a1, h.nm, am, h.m0, h.m1, h.mov⟩
theorem MovAt.tight (h : MovAt W Fm g s0 s1 m n S ext done cp) : MovAt W (fun j => Fm j ∧ j < W.heap.size) g s0 s1 m n S ext done cp := by
  obtain ⟨F, h⟩ := h
  have h2 := h.tight
  exact ⟨_, h2.narrow (fun j hj => ⟨h2.inF j hj, hj.2⟩) ⟨h.i0, Cs.lt h.sp0⟩ ⟨h.i1, Cs.lt h.sp1⟩ ⟨h.im, h.mov.lt⟩⟩
end

end Go.Proofs.Ytpcjdmbnlhjlaaa
