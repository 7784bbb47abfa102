/-
  Both sides of a mover in memory, over the program's and the reference's calls.
-/
import Derived.Test.YtpcjdmbnlhjlaaaRelL
namespace Go.Proofs.Ytpcjdmbnlhjlaaa
set_option linter.unusedVariables false
open Go.RowKit

/-- Where both sides lie. -/
structure Bl where
  pb : Nat
  g : Nat
  s0 : Nat
  s1 : Nat
  m : Nat
  rb : Nat
  bO : Nat
  cO : Nat
  bN : Nat
  cN : Nat
  bL : Nat
  cL : Nat

structure PB (W w : World) (Fm : Nat → Prop) (k : Bl) (n : Nat) (S : DS) (ext done : Nat) (cp : Bool) (rdone : Nat) (rcp : Bool) (old new : List Nat) : Prop where
  p : P34 W.heap.size w Fm k.pb k.g k.s0 k.s1 k.m k.rb k.bO k.cO k.bN k.cN k.bL k.cL n S ext done cp rdone rcp old new
  bel : Below W.heap.size W w
  lt : W.heap.size < w.heap.size
  l0 : old.length = n
  l1 : new.length = n
  n_ : n ≤ 60000
  e_ : 1 ≤ ext
  d_ : done ≤ 60000

section
variable {W w : World} {Fm : Nat → Prop} {k : Bl} {n : Nat} {S : DS} {ext done : Nat} {cp : Bool} {rdone : Nat} {rcp : Bool} {old new : List Nat}
theorem PB.keep (h : PB W w Fm k n S ext done cp rdone rcp old new) {w' : World} (hb : Below w.heap.size w w') : PB W w' Fm k n S ext done cp rdone rcp old new :=
  ⟨h.p.keep hb, h.bel.trans (hb.mono h.bel.size), Nat.lt_of_lt_of_le h.lt hb.size, h.l0, h.l1, h.n_, h.e_, h.d_⟩
theorem PB.grown (h : PB W w Fm k n S ext done cp rdone rcp old new) {w' : World} (hg : w.grownBy w' (some W.heap.size)) : PB W w' Fm k n S ext done cp rdone rcp old new :=
  ⟨h.p.fr (Fr.of_grown hg) (fun j hj e => by omega), gb_Below h.bel hg h.bel.size (Nat.le_refl _), Nat.lt_of_lt_of_le h.lt hg.size, h.l0, h.l1, h.n_, h.e_, h.d_⟩
theorem PB.movd (h : PB W w Fm k n S ext done cp rdone rcp old new) {w' : World} {Fm' : Nat → Prop} {S' : DS} {done' : Nat} {cp' : Bool} (hm : MovAt w' Fm' k.g k.s0 k.s1 k.m n S' ext done' cp') (ht : Turn Fm Fm' w w') (hd : done' ≤ 60000) : PB W w' Fm' k n S' ext done' cp' rdone rcp old new :=
  ⟨h.p.movd hm ht h.lt, h.bel.trans (ht.1.below h.bel.size (fun j hj => Nat.le_of_lt (h.p.lof j hj))), Nat.lt_of_lt_of_le h.lt ht.1.size, h.l0, h.l1, h.n_, h.e_, hd⟩
theorem PB.rf (h : PB W w Fm k n S ext done cp rdone rcp old new) : RF w k.rb k.bO k.cO k.bN k.cN n ext rdone rcp old new := h.p.rf h.l0 h.l1
theorem PB.refd (h : PB W w Fm k n S ext done cp rdone rcp old new) {w' : World} {rdone' : Nat} {rcp' : Bool} {old' new' : List Nat} (hr : RF w' k.rb k.bO k.cO k.bN k.cN n ext rdone' rcp' old' new') (hf : Fr (fun j => j = k.rb ∨ j = k.bO ∨ j = k.bN) w w') : PB W w' Fm k n S ext done cp rdone' rcp' old' new' := by
  refine ⟨h.p.refd hr hf, h.bel.trans (hf.below h.bel.size ?_), Nat.lt_of_lt_of_le h.lt hf.size, hr.l0, hr.l1, h.n_, h.e_, h.d_⟩
  have := h.p.lo_
  rintro j (e | e | e) <;> omega
theorem PB.copy (h : PB W w Fm k n S ext done false rdone rcp old new) (hd : done < n / ext) (hl : S.log.length ≤ 800000) (hwr : S.wr ≤ 800000000) :
    Calls Try.prog 17 #[.pointer (some ⟨k.m, 0, none⟩)] w fun e w' => e = .returned (.int .i64 (cpE S n ext done)) ∧ ∃ Fm', PB W w' Fm' k n (cpS S n ext done) ext done (decide (cpE S n ext done = 0)) rdone rcp old new := by
  have hn := h.n_
  obtain ⟨F, hm⟩ := h.p.mov
  refine (rcopy_any w F Fm k.g k.s0 k.s1 k.m n S ext done hm h.e_ (by omega) hd hl hwr).mono ?_
  rintro e w' ⟨rfl, Fm', hm', ht⟩
  exact ⟨rfl, Fm', h.movd hm' ht h.d_⟩
theorem PB.copyno (h : PB W w Fm k n S ext done cp rdone rcp old new) (hc : cp = true ∨ done = n / ext) :
    Calls Try.prog 17 #[.pointer (some ⟨k.m, 0, none⟩)] w fun e w' => e = .returned (.int .i64 28) ∧ PB W w' Fm k n S ext done cp rdone rcp old new := by
  have hn := h.n_
  obtain ⟨F, hm⟩ := h.p.mov
  exact (rcopy_no w F Fm k.g k.s0 k.s1 k.m n S ext done cp hm h.e_ (by omega) hc).mono fun e w' he => ⟨he.1, h.keep he.2⟩
theorem PB.write (h : PB W w Fm k n S ext done cp rdone rcp old new) (a v : Nat) (ha : a < n) (hv : v < 18446744073709551616) (hl : S.log.length < 900000) (hwr : S.wr ≤ 900000000) :
    Calls Try.prog 15 #[.pointer (some ⟨k.m, 0, none⟩), .int .i64 (a : Int), .int .u64 (v : Int)] w fun e w' => e = .returned (.int .i64 (mwE S n ext done a)) ∧ ∃ Fm', PB W w' Fm' k n (mwS S n ext done cp a v) ext done (mwC S n ext done cp a v) rdone rcp old new := by
  have hn := h.n_
  obtain ⟨F, hm⟩ := h.p.mov
  refine (rwrite_any w F Fm k.g k.s0 k.s1 k.m n S ext done cp hm a v h.e_ ha (by omega) hv hl hwr).mono ?_
  rintro e w' ⟨rfl, Fm', hm', ht⟩
  exact ⟨rfl, Fm', h.movd hm' ht h.d_⟩
theorem PB.writeno (h : PB W w Fm k n S ext done cp rdone rcp old new) (a : Int) (v : Nat) (ha : a < 0 ∨ (n : Int) ≤ a) :
    Calls Try.prog 15 #[.pointer (some ⟨k.m, 0, none⟩), .int .i64 a, .int .u64 (v : Int)] w fun e w' => e = .returned (.int .i64 1) ∧ PB W w' Fm k n S ext done cp rdone rcp old new := by
  obtain ⟨F, hm⟩ := h.p.mov
  exact (rwrite_no w F Fm k.g k.s0 k.s1 k.m n S ext done cp hm a v ha).mono fun e w' he => ⟨he.1, by rw [← he.2]; exact h⟩
theorem PB.read (h : PB W w Fm k n S ext done cp rdone rcp old new) (a : Nat) (ha : a < n) :
    Calls Try.prog 13 #[.pointer (some ⟨k.m, 0, none⟩), .int .i64 (a : Int)] w fun e w' => e = .returned (.tuple #[.int .u64 (S.sread (plc ext done a) n (a : Int) : Int), .int .i64 (S.sE (plc ext done a) n (a : Int))]) ∧ PB W w' Fm k n S ext done cp rdone rcp old new := by
  have hn := h.n_
  obtain ⟨F, hm⟩ := h.p.mov
  exact (rread_any w F Fm k.g k.s0 k.s1 k.m n S ext done cp hm a h.e_ ha (by omega)).mono fun e w' he => ⟨he.1, h.keep he.2⟩
theorem PB.readno (h : PB W w Fm k n S ext done cp rdone rcp old new) (a : Int) (ha : a < 0 ∨ (n : Int) ≤ a) :
    Calls Try.prog 13 #[.pointer (some ⟨k.m, 0, none⟩), .int .i64 a] w fun e w' => e = .returned (.tuple #[.int .u64 0, .int .i64 1]) ∧ PB W w' Fm k n S ext done cp rdone rcp old new := by
  obtain ⟨F, hm⟩ := h.p.mov
  exact (rread_no w F Fm k.g k.s0 k.s1 k.m n S ext done cp hm a ha).mono fun e w' he => ⟨he.1, by rw [← he.2]; exact h⟩
theorem PB.adv (h : PB W w Fm k n S ext done true rdone rcp old new) (hd : done < 60000) :
    Calls Try.prog 19 #[.pointer (some ⟨k.m, 0, none⟩)] w fun e w' => e = .returned (.int .i64 0) ∧ PB W w' Fm k n S ext (done + 1) false rdone rcp old new := by
  obtain ⟨F, hm⟩ := h.p.mov
  refine (radv_any w F Fm k.g k.s0 k.s1 k.m n S ext done true hm (by omega)).mono ?_
  rintro e w' ⟨-, he⟩
  obtain ⟨rfl, hm', hf⟩ := he rfl
  exact ⟨rfl, h.movd ⟨F, hm'⟩ ⟨hf, fun j hj => .inl hj⟩ hd⟩
theorem PB.advno (h : PB W w Fm k n S ext done false rdone rcp old new) :
    Calls Try.prog 19 #[.pointer (some ⟨k.m, 0, none⟩)] w fun e w' => e = .returned (.int .i64 28) ∧ PB W w' Fm k n S ext done false rdone rcp old new := by
  have hd := h.d_
  obtain ⟨F, hm⟩ := h.p.mov
  refine (radv_any w F Fm k.g k.s0 k.s1 k.m n S ext done false hm (by omega)).mono ?_
  rintro e w' ⟨he, -⟩
  obtain ⟨rfl, rfl⟩ := he rfl
  exact ⟨rfl, h⟩
theorem PB.flush (h : PB W w Fm k n S ext done cp rdone rcp old new) (hl : S.log.length ≤ 900000) (hl2 : (S.flush 0).log.length ≤ 900000) :
    Calls Try.prog 31 #[.pointer (some ⟨k.m, 0, none⟩)] w fun e w' => e = .returned (.int .i64 (mfE S)) ∧ ∃ Fm', PB W w' Fm' k n (mfS S) ext done cp rdone rcp old new := by
  obtain ⟨F, hm⟩ := h.p.mov
  refine (rflush_any w F Fm k.g k.s0 k.s1 k.m n S ext done cp hm (by omega) (by omega)).mono ?_
  rintro e w' ⟨rfl, Fm', hm', ht⟩
  exact ⟨rfl, Fm', h.movd hm' ht h.d_⟩
theorem PB.done_ (h : PB W w Fm k n S ext done cp rdone rcp old new) : Calls Try.prog 22 #[.pointer (some ⟨k.m, 0, none⟩)] w fun e w' => e = .returned (.int .i64 (done : Int)) ∧ w = w' := by
  obtain ⟨F, hm⟩ := h.p.mov
  exact rdone_any w F Fm k.g k.s0 k.s1 k.m n S ext done cp hm
theorem PB.copied_ (h : PB W w Fm k n S ext done cp rdone rcp old new) : Calls Try.prog 23 #[.pointer (some ⟨k.m, 0, none⟩)] w fun e w' => e = .returned (.bool cp) ∧ w = w' := by
  obtain ⟨F, hm⟩ := h.p.mov
  exact rcopied_any w F Fm k.g k.s0 k.s1 k.m n S ext done cp hm
theorem PB.size_ (h : PB W w Fm k n S ext done cp rdone rcp old new) : Calls Try.prog 35 #[.pointer (some ⟨k.m, 0, none⟩)] w fun e w' => e = .returned (.int .i64 (n : Int)) ∧ w = w' := by
  obtain ⟨F, hm⟩ := h.p.mov
  exact rsize_any w F Fm k.g k.s0 k.s1 k.m n S ext done cp hm
theorem PB.image (h : PB W w Fm k n S ext done cp rdone rcp old new) (i : Nat) (hi : i < S.dr.length) : Calls Try.prog 21 #[.pointer (some ⟨k.g, 0, none⟩), .int .i64 (i : Int)] w fun e w' => ∃ v, e = .returned (.tuple #[v, .int .i64 0]) ∧ w'.ownsRow w.heap.size 32 1 v (S.now i).length (uv (S.now i)) ∧ PB W w' Fm k n S ext done cp rdone rcp old new := by
  obtain ⟨F, hm⟩ := h.p.mov
  refine (image_any w F k.g i S hm.dsk hi).mono ?_
  rintro e w' ⟨v, rfl, ho, hb⟩
  exact ⟨v, rfl, ho, h.keep hb⟩
theorem PB.cells (h : PB W w Fm k n S ext done cp rdone rcp old new) : w.cell? ⟨k.pb, 0, none⟩ = some (.pointer (some ⟨k.g, 0, none⟩)) ∧ w.cell? ⟨k.pb, 1, none⟩ = some (.slice (some ⟨k.bL, 0, none⟩) 2 k.cL) ∧ w.cell? ⟨k.pb, 2, none⟩ = some (.pointer (some ⟨k.m, 0, none⟩)) ∧ w.cell? ⟨k.pb, 3, none⟩ = some (.pointer (some ⟨k.rb, 0, none⟩)) ∧
    w.cell? ⟨k.bL, 0, none⟩ = some (.iface 114 (.pointer (some ⟨k.s0, 0, none⟩))) ∧ w.cell? ⟨k.bL, 1, none⟩ = some (.iface 114 (.pointer (some ⟨k.s1, 0, none⟩))) := h.p.cells
end

end Go.Proofs.Ytpcjdmbnlhjlaaa
