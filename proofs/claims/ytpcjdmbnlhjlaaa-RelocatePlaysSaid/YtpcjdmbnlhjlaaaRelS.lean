/-
  Both sides of a mover that are alike, and the source: a lemma for each request.
-/
import Derived.Test.YtpcjdmbnlhjlaaaRelQ
namespace Go.Proofs.Ytpcjdmbnlhjlaaa
set_option linter.unusedVariables false
open Go.RowKit

/-- Both sides, alike; the source. -/
structure PY (W w : World) (Fm : Nat → Prop) (k : Bl) (n : Nat) (S : DS) (ext done : Nat) (cp : Bool) (old new : List Nat) (L : Nat) : Prop where
  b : PB W w Fm k n S ext done cp done cp old new
  pl : PLS S n ext done cp old new
  src : SrcAt w W.heap.size
  lg : S.log.length ≤ L
  wr : S.wr ≤ L
theorem PY.grown {W w : World} {Fm : Nat → Prop} {k : Bl} {n : Nat} {S : DS} {ext done : Nat} {cp : Bool} {old new : List Nat} {L : Nat} (h : PY W w Fm k n S ext done cp old new L) {w' : World} (hs : SrcAt w' W.heap.size) (hg : w.grownBy w' (some W.heap.size)) : PY W w' Fm k n S ext done cp old new L := ⟨h.b.grown hg, h.pl, hs, h.lg, h.wr⟩
theorem PY.keep {W w : World} {Fm : Nat → Prop} {k : Bl} {n : Nat} {S : DS} {ext done : Nat} {cp : Bool} {old new : List Nat} {L : Nat} (h : PY W w Fm k n S ext done cp old new L) {w' : World} (hb : Below w.heap.size w w') : PY W w' Fm k n S ext done cp old new L := ⟨h.b.keep hb, h.pl, h.src.keep hb, h.lg, h.wr⟩
theorem PB.src_ {W w w' : World} {Fm Fm' : Nat → Prop} {k : Bl} {n : Nat} {S : DS} {ext done : Nat} {cp : Bool} {rdone : Nat} {rcp : Bool} {old new : List Nat} (h : PB W w Fm k n S ext done cp rdone rcp old new) (hs : SrcAt w W.heap.size) (ht : Turn Fm Fm' w w') : SrcAt w' W.heap.size := hs.fr ht.1 h.p.lof

/-- The program has made a step that the reference has not made yet. -/
structure PM (W w : World) (Fm : Nat → Prop) (k : Bl) (n : Nat) (S : DS) (ext done : Nat) (cp : Bool) (rdone : Nat) (rcp : Bool) (old new old' new' : List Nat) (L : Nat) : Prop where
  b : PB W w Fm k n S ext done cp rdone rcp old new
  pl : PLS S n ext done cp old' new'
  src : SrcAt w W.heap.size
  lg : S.log.length ≤ L
  wr : S.wr ≤ L

section
variable {W w : World} {Fm : Nat → Prop} {k : Bl} {n : Nat} {S : DS} {ext done : Nat} {cp : Bool} {rdone : Nat} {rcp : Bool} {old new old' new' : List Nat} {L : Nat}
theorem PY.mono (h : PY W w Fm k n S ext done cp old new L) {M : Nat} (hm : L ≤ M) : PY W w Fm k n S ext done cp old new M := ⟨h.b, h.pl, h.src, by have := h.lg; omega, by have := h.wr; omega⟩
theorem PM.drew (h : PM W w Fm k n S ext done cp rdone rcp old new old' new' L) : PM W w.drew Fm k n S ext done cp rdone rcp old new old' new' L := ⟨h.b.keep (Below.refl _ w).drew, h.pl, h.src.keep (Below.refl _ w).drew, h.lg, h.wr⟩
theorem PY.read (h : PY W w Fm k n S ext done cp old new L) (a : Nat) (ha : a < n) :
    Calls Try.prog 13 #[.pointer (some ⟨k.m, 0, none⟩), .int .i64 (a : Int)] w fun e w' => e = .returned (.tuple #[.int .u64 (((if a / ext < done then new else old)[a]?.getD 0 : Nat) : Int), .int .i64 0]) ∧ PY W w' Fm k n S ext done cp old new L := by
  have hn := h.b.n_
  obtain ⟨F, hm⟩ := h.b.p.mov
  obtain ⟨e1, e2⟩ := h.pl.read a ha
  have hc := rread_any w F Fm k.g k.s0 k.s1 k.m n S ext done cp hm a h.b.e_ ha (by omega)
  rw [e1, e2] at hc
  exact hc.mono fun e w' he => ⟨he.1, h.keep he.2⟩
theorem PY.rread (h : PY W w Fm k n S ext done cp old new L) (a : Nat) (ha : a < n) :
    Calls Try.prog 14 #[.pointer (some ⟨k.rb, 0, none⟩), .int .i64 (a : Int)] w fun e w' => e = .returned (.tuple #[.int .u64 (((if a / ext < done then new else old)[a]?.getD 0 : Nat) : Int), .int .i64 0]) ∧ PY W w' Fm k n S ext done cp old new L := by
  have hn := h.b.n_
  exact (rfread_any w k.rb k.bO k.cO k.bN k.cN n ext done cp old new h.b.rf a h.b.e_ ha (by omega)).mono fun e w' he => ⟨he.1, h.keep he.2⟩
theorem PY.readno (h : PY W w Fm k n S ext done cp old new L) (a : Int) (ha : a < 0 ∨ (n : Int) ≤ a) :
    Calls Try.prog 13 #[.pointer (some ⟨k.m, 0, none⟩), .int .i64 a] w fun e w' => e = .returned (.tuple #[.int .u64 0, .int .i64 1]) ∧ w = w' := by
  obtain ⟨F, hm⟩ := h.b.p.mov
  exact rread_no w F Fm k.g k.s0 k.s1 k.m n S ext done cp hm a ha
theorem PY.rreadno (h : PY W w Fm k n S ext done cp old new L) (a : Int) (ha : a < 0 ∨ (n : Int) ≤ a) :
    Calls Try.prog 14 #[.pointer (some ⟨k.rb, 0, none⟩), .int .i64 a] w fun e w' => e = .returned (.tuple #[.int .u64 0, .int .i64 1]) ∧ w = w' := rfread_no w k.rb k.bO k.cO k.bN k.cN n ext done cp old new h.b.rf a ha
theorem PY.writeno (h : PY W w Fm k n S ext done cp old new L) (a : Int) (v : Nat) (ha : a < 0 ∨ (n : Int) ≤ a) :
    Calls Try.prog 15 #[.pointer (some ⟨k.m, 0, none⟩), .int .i64 a, .int .u64 (v : Int)] w fun e w' => e = .returned (.int .i64 1) ∧ w = w' := by
  obtain ⟨F, hm⟩ := h.b.p.mov
  exact rwrite_no w F Fm k.g k.s0 k.s1 k.m n S ext done cp hm a v ha
theorem PY.rwriteno (h : PY W w Fm k n S ext done cp old new L) (a : Int) (v : Nat) (ha : a < 0 ∨ (n : Int) ≤ a) :
    Calls Try.prog 16 #[.pointer (some ⟨k.rb, 0, none⟩), .int .i64 a, .int .u64 (v : Int)] w fun e w' => e = .returned (.int .i64 1) ∧ w = w' := rfwrite_no w k.rb k.bO k.cO k.bN k.cN n ext done cp old new h.b.rf a v ha
theorem PY.write (h : PY W w Fm k n S ext done cp old new L) (a v : Nat) (ha : a < n) (hv : v < 18446744073709551616) (hL : L ≤ 100000) :
    Calls Try.prog 15 #[.pointer (some ⟨k.m, 0, none⟩), .int .i64 (a : Int), .int .u64 (v : Int)] w fun e w' => e = .returned (.int .i64 0) ∧ ∃ Fm' S', PM W w' Fm' k n S' ext done cp done cp old new (if a / ext < done then old else old.set a v) (if a / ext < done ∨ (cp = true ∧ a / ext = done) then new.set a v else new) (L + 2) := by
  have hn := h.b.n_
  have hlg := h.lg
  have hwr := h.wr
  obtain ⟨F, hm⟩ := h.b.p.mov
  obtain ⟨b1, b2, b3, b4, b5⟩ := h.pl.write a v ha
  refine (rwrite_any w F Fm k.g k.s0 k.s1 k.m n S ext done cp hm a v h.b.e_ ha (by omega) hv (by omega) (by omega)).mono ?_
  rintro e w' ⟨rfl, Fm', hm', ht⟩
  rw [b2] at hm'
  exact ⟨by rw [b1], Fm', _, h.b.movd hm' ht h.b.d_, b5, h.b.src_ h.src ht, by omega, by push_cast; omega⟩
theorem PM.rwrite {a v : Nat} (h : PM W w Fm k n S ext done cp done cp old new (if a / ext < done then old else old.set a v) (if a / ext < done ∨ (cp = true ∧ a / ext = done) then new.set a v else new) L) (ha : a < n) :
    Calls Try.prog 16 #[.pointer (some ⟨k.rb, 0, none⟩), .int .i64 (a : Int), .int .u64 (v : Int)] w fun e w' => e = .returned (.int .i64 0) ∧ ∃ old' new', PY W w' Fm k n S ext done cp old' new' L := by
  have hn := h.b.n_
  have hlo := h.b.p.lo_
  refine (rfwrite_any w k.rb k.bO k.cO k.bN k.cN n ext done cp old new h.b.rf a v h.b.e_ ha (by omega)).mono ?_
  rintro e w' ⟨rfl, hr, hf⟩
  exact ⟨rfl, _, _, h.b.refd hr hf, h.pl, h.src.fr hf (by rintro j (e | e | e) <;> omega), h.lg, h.wr⟩
theorem PY.copy (h : PY W w Fm k n S ext done false old new L) (hd : done < n / ext) (he : ext ≤ 16) (hL : L ≤ 100000) :
    Calls Try.prog 17 #[.pointer (some ⟨k.m, 0, none⟩)] w fun e w' => e = .returned (.int .i64 0) ∧ ∃ Fm' S', PM W w' Fm' k n S' ext done true done false old new old (cpL old new (done * ext) ext) (L + 16) := by
  have hn := h.b.n_
  have hlg := h.lg
  have hwr := h.wr
  obtain ⟨F, hm⟩ := h.b.p.mov
  obtain ⟨a1, q1, a2, a3⟩ := h.pl.copy hd
  refine (rcopy_any w F Fm k.g k.s0 k.s1 k.m n S ext done hm h.b.e_ (by omega) hd (by omega) (by omega)).mono ?_
  rintro e w' ⟨rfl, Fm', hm', ht⟩
  rw [a1] at hm'
  exact ⟨by rw [a1], Fm', _, h.b.movd (cp' := true) hm' ht h.b.d_, q1, h.b.src_ h.src ht, by omega, by push_cast; omega⟩
theorem PM.rcopy (h : PM W w Fm k n S ext done true done false old new old (cpL old new (done * ext) ext) L) (hd : done < n / ext) :
    Calls Try.prog 18 #[.pointer (some ⟨k.rb, 0, none⟩)] w fun e w' => e = .returned (.int .i64 0) ∧ ∃ old' new', PY W w' Fm k n S ext done true old' new' L := by
  have hn := h.b.n_
  have hlo := h.b.p.lo_
  refine (rfcopy_any w k.rb k.bO k.cO k.bN k.cN n ext done old new h.b.rf h.b.e_ (by omega) hd).mono ?_
  rintro e w' ⟨rfl, hr, hf⟩
  exact ⟨rfl, _, _, h.b.refd hr hf, h.pl, h.src.fr hf (by rintro j (e | e | e) <;> omega), h.lg, h.wr⟩
theorem PY.copyno (h : PY W w Fm k n S ext done cp old new L) (hc : cp = true ∨ done = n / ext) :
    Calls Try.prog 17 #[.pointer (some ⟨k.m, 0, none⟩)] w fun e w' => e = .returned (.int .i64 28) ∧ PY W w' Fm k n S ext done cp old new L := by
  have hn := h.b.n_
  obtain ⟨F, hm⟩ := h.b.p.mov
  exact (rcopy_no w F Fm k.g k.s0 k.s1 k.m n S ext done cp hm h.b.e_ (by omega) hc).mono fun e w' he => ⟨he.1, h.keep he.2⟩
theorem PY.rcopyno (h : PY W w Fm k n S ext done cp old new L) (hc : cp = true ∨ done = n / ext) :
    Calls Try.prog 18 #[.pointer (some ⟨k.rb, 0, none⟩)] w fun e w' => e = .returned (.int .i64 28) ∧ PY W w' Fm k n S ext done cp old new L := by
  have hn := h.b.n_
  exact (rfcopy_no w k.rb k.bO k.cO k.bN k.cN n ext done cp old new h.b.rf h.b.e_ (by omega) hc).mono fun e w' he => ⟨he.1, h.keep he.2⟩
theorem PY.adv (h : PY W w Fm k n S ext done true old new L) :
    Calls Try.prog 19 #[.pointer (some ⟨k.m, 0, none⟩)] w fun e w' => e = .returned (.int .i64 0) ∧ PM W w' Fm k n S ext (done + 1) false done true old new old new L := by
  have hn := h.b.n_
  have hd := h.pl.cpd rfl
  have hle := Nat.div_le_self n ext
  obtain ⟨F, hm⟩ := h.b.p.mov
  refine (radv_any w F Fm k.g k.s0 k.s1 k.m n S ext done true hm (by omega)).mono ?_
  rintro e w' ⟨-, he⟩
  obtain ⟨rfl, hm', hf⟩ := he rfl
  have ht : Turn Fm Fm w w' := ⟨hf, fun j hj => .inl hj⟩
  exact ⟨rfl, h.b.movd ⟨F, hm'⟩ ht (by omega), h.pl.next, h.b.src_ h.src ht, h.lg, h.wr⟩
theorem PM.radv (h : PM W w Fm k n S ext (done + 1) false done true old new old new L) :
    Calls Try.prog 20 #[.pointer (some ⟨k.rb, 0, none⟩)] w fun e w' => e = .returned (.int .i64 0) ∧ PY W w' Fm k n S ext (done + 1) false old new L := by
  have hn := h.b.d_
  have hlo := h.b.p.lo_
  refine (rfadv_any w k.rb k.bO k.cO k.bN k.cN n ext done true old new h.b.rf (by omega)).mono ?_
  rintro e w' ⟨-, he⟩
  obtain ⟨rfl, hr, hf⟩ := he rfl
  exact ⟨rfl, h.b.refd hr hf, h.pl, h.src.fr hf (by rintro j (e | e | e) <;> omega), h.lg, h.wr⟩
theorem PY.advno (h : PY W w Fm k n S ext done false old new L) :
    Calls Try.prog 19 #[.pointer (some ⟨k.m, 0, none⟩)] w fun e w' => e = .returned (.int .i64 28) ∧ w = w' := by
  have hd := h.b.d_
  obtain ⟨F, hm⟩ := h.b.p.mov
  exact (radv_any w F Fm k.g k.s0 k.s1 k.m n S ext done false hm (by omega)).mono fun e w' he => he.1 rfl
theorem PY.radvno (h : PY W w Fm k n S ext done false old new L) :
    Calls Try.prog 20 #[.pointer (some ⟨k.rb, 0, none⟩)] w fun e w' => e = .returned (.int .i64 28) ∧ w = w' := by
  have hd := h.b.d_
  exact (rfadv_any w k.rb k.bO k.cO k.bN k.cN n ext done false old new h.b.rf (by omega)).mono fun e w' he => he.1 rfl
theorem PY.image (h : PY W w Fm k n S ext done cp old new L) (i : Nat) (hi : i < 2) : Calls Try.prog 21 #[.pointer (some ⟨k.g, 0, none⟩), .int .i64 (i : Int)] w fun e w' => ∃ A c, e = .returned (.tuple #[.slice A n c, .int .i64 0]) ∧ Reads w' A (uv (if i = 0 then old else new)) ∧ Below w.heap.size w w' ∧ PY W w' Fm k n S ext done cp old new L := by
  obtain ⟨F, hm⟩ := h.b.p.mov
  have hl : S.dr.length = 2 := h.pl.hea.nd
  obtain ⟨ln0, ln1⟩ := h.pl.lens
  refine (image_any w F k.g i S hm.dsk (by omega)).mono ?_
  rintro e w' ⟨v, rfl, ho, hb⟩
  change w'.ownsRow w.heap.size _ 1 v (S.now i).length (uv (S.now i)) at ho
  have hno : S.now i = if i = 0 then old else new := by
    rcases (by omega : i = 0 ∨ i = 1) with rfl | rfl
    · exact h.pl.n0
    · exact h.pl.n1
  have hln : (S.now i).length = n := by rw [hno]; split; exact ln0; exact ln1
  rw [hln, hno] at ho
  obtain ⟨A, c, rfl⟩ := own_form ho
  exact ⟨A, c, rfl, Reads.of_own ho, hb, h.keep hb⟩
end

end Go.Proofs.Ytpcjdmbnlhjlaaa
