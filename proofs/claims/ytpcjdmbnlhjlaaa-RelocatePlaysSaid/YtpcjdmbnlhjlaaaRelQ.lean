/-
  What the walk of RelocateEnds holds.
-/
import Derived.Test.YtpcjdmbnlhjlaaaRelM
namespace Go.Proofs.Ytpcjdmbnlhjlaaa
set_option linter.unusedVariables false
open Go.RowKit

theorem PB.tight {W w : World} {Fm : Nat → Prop} {k : Bl} {n : Nat} {S : DS} {ext done : Nat} {cp : Bool} {rdone : Nat} {rcp : Bool} {old new : List Nat} (h : PB W w Fm k n S ext done cp rdone rcp old new) : PB W w (fun j => Fm j ∧ j < w.heap.size) k n S ext done cp rdone rcp old new := by
  obtain ⟨⟨a, b, c, d, e, f, ne, ⟨a1, a2, a3, a4, a5⟩, l, lf⟩, h2, h3, h4, h5, h6, h7, h8⟩ := h
  exact ⟨⟨a.tight, b, c, d, e, f, ne, ⟨fun h => a1 h.1, fun h => a2 h.1, fun h => a3 h.1, fun h => a4 h.1, fun h => a5 h.1⟩, l, fun j hj => lf j hj.1⟩, h2, h3, h4, h5, h6, h7, h8⟩

theorem PB.image2 {W w : World} {Fm : Nat → Prop} {k : Bl} {n : Nat} {S : DS} {ext done : Nat} {cp : Bool} {rdone : Nat} {rcp : Bool} {old new : List Nat} (h : PB W w Fm k n S ext done cp rdone rcp old new) (i : Nat) (hi : i < S.dr.length) : Calls Try.prog 21 #[.pointer (some ⟨k.g, 0, none⟩), .int .i64 (i : Int)] w fun e w' => ∃ v, e = .returned (.tuple #[v, .int .i64 0]) ∧ w'.ownsRow w.heap.size 32 1 v (S.now i).length (uv (S.now i)) ∧ Below w.heap.size w w' ∧ PB W w' Fm k n S ext done cp rdone rcp old new := by
  obtain ⟨F, hm⟩ := h.p.mov
  refine (image_any w F k.g i S hm.dsk hi).mono ?_
  rintro e w' ⟨v, rfl, ho, hb⟩
  exact ⟨v, rfl, ho, hb, h.keep hb⟩

/-- Both sides, the words that are wanted (want), and their row in memory (wrow). -/
structure EY (W w : World) (Fm : Nat → Prop) (k : Bl) (bW cW N : Nat) (S : DS) (ext done : Nat) (cp : Bool) (old new want wrow ro rn : List Nat) (L : Nat) : Prop where
  b : PB W w Fm k N S ext done cp 0 false ro rn
  pl : PLS S N ext done cp old new
  en : EN N ext done cp old new want
  wt : w.ownsRow 0 32 1 (.slice (some ⟨bW, 0, none⟩) N cW) N (uv wrow)
  wl : wrow.length = N
  ap : ¬ Fm bW
  lo : W.heap.size < bW
  nO : bW ≠ k.bO
  nN : bW ≠ k.bN
  src : SrcAt w W.heap.size
  lg : S.log.length ≤ L
  wr : S.wr ≤ L

section
variable {W w : World} {Fm : Nat → Prop} {k : Bl} {bW cW N : Nat} {S : DS} {ext done : Nat} {cp : Bool} {old new want wrow ro rn : List Nat} {L : Nat}
theorem EY.grown (h : EY W w Fm k bW cW N S ext done cp old new want wrow ro rn L) {w' : World} (hs : SrcAt w' W.heap.size) (hg : w.grownBy w' (some W.heap.size)) : EY W w' Fm k bW cW N S ext done cp old new want wrow ro rn L :=
  ⟨h.b.grown hg, h.pl, h.en, own_fr h.wt (Fr.of_grown hg) (fun b hb => by simp [Value.ownBlock] at hb; have := h.lo; omega), h.wl, h.ap, h.lo, h.nO, h.nN, hs, h.lg, h.wr⟩
theorem EY.mono (h : EY W w Fm k bW cW N S ext done cp old new want wrow ro rn L) {M : Nat} (hm : L ≤ M) : EY W w Fm k bW cW N S ext done cp old new want wrow ro rn M :=
  ⟨h.b, h.pl, h.en, h.wt, h.wl, h.ap, h.lo, h.nO, h.nN, h.src, by have := h.lg; omega, by have := h.wr; omega⟩
theorem EY.turn (h : EY W w Fm k bW cW N S ext done cp old new want wrow ro rn L) {w' : World} {Fm' : Nat → Prop} {S' : DS} {done' : Nat} {cp' : Bool} {old' new' want' : List Nat} {L' : Nat} (hb : MovAt w' Fm' k.g k.s0 k.s1 k.m N S' ext done' cp') (ht : Turn Fm Fm' w w') (hd : done' ≤ 60000) (hp : PLS S' N ext done' cp' old' new') (he : EN N ext done' cp' old' new' want') (h1 : S'.log.length ≤ L') (h2 : S'.wr ≤ L') :
    EY W w' Fm' k bW cW N S' ext done' cp' old' new' want' wrow ro rn L' :=
  ⟨h.b.movd hb ht hd, hp, he, own_fr h.wt ht.1 (fun b hb => by simp [Value.ownBlock] at hb; rw [← hb]; exact h.ap), h.wl, ht.out (own_lt h.wt _ rfl) h.ap, h.lo, h.nO, h.nN, h.src.fr ht.1 h.b.p.lof, h1, h2⟩
theorem EY.write (h : EY W w Fm k bW cW N S ext done cp old new want wrow ro rn L) (a v : Nat) (ha : a < N) (hv : v < 18446744073709551616) (hL : L ≤ 100000) :
    Calls Try.prog 15 #[.pointer (some ⟨k.m, 0, none⟩), .int .i64 (a : Int), .int .u64 (v : Int)] w fun e w' => e = .returned (.int .i64 0) ∧ ∃ Fm' S' old' new', EY W w' Fm' k bW cW N S' ext done cp old' new' (want.set a v) wrow ro rn (L + 2) := by
  have hn := h.b.n_
  have hlg := h.lg
  have hwr := h.wr
  obtain ⟨F, hm⟩ := h.b.p.mov
  obtain ⟨b1, b2, b3, b4, q2⟩ := h.pl.write a v ha
  refine (rwrite_any w F Fm k.g k.s0 k.s1 k.m N S ext done cp hm a v h.b.e_ ha (by omega) hv (by omega) (by omega)).mono ?_
  rintro e w' ⟨rfl, Fm', hm', ht⟩
  rw [b2] at hm'
  exact ⟨by rw [b1], Fm', _, _, _, h.turn hm' ht h.b.d_ q2 (h.en.write a v ha) (by omega) (by push_cast; omega)⟩
theorem EY.copy (h : EY W w Fm k bW cW N S ext done false old new want wrow ro rn L) (hd : done < N / ext) (hL : L ≤ 100000) (he : ext ≤ 4) :
    Calls Try.prog 17 #[.pointer (some ⟨k.m, 0, none⟩)] w fun e w' => e = .returned (.int .i64 0) ∧ ∃ Fm' S' old' new', EY W w' Fm' k bW cW N S' ext done true old' new' want wrow ro rn (L + 4) := by
  have hn := h.b.n_
  have hlg := h.lg
  have hwr := h.wr
  obtain ⟨F, hm⟩ := h.b.p.mov
  obtain ⟨a1, q1, a2, a3⟩ := h.pl.copy hd
  refine (rcopy_any w F Fm k.g k.s0 k.s1 k.m N S ext done hm h.b.e_ (by omega) hd (by omega) (by omega)).mono ?_
  rintro e w' ⟨rfl, Fm', hm', ht⟩
  rw [a1] at hm'
  exact ⟨by rw [a1], Fm', _, _, _, h.turn (cp' := true) hm' ht h.b.d_ q1 (h.en.copy h.b.e_) (by omega) (by push_cast; omega)⟩
theorem EY.adv (h : EY W w Fm k bW cW N S ext done true old new want wrow ro rn L) (hd : done < 60000) :
    Calls Try.prog 19 #[.pointer (some ⟨k.m, 0, none⟩)] w fun e w' => e = .returned (.int .i64 0) ∧ EY W w' Fm k bW cW N S ext (done + 1) false old new want wrow ro rn L := by
  obtain ⟨F, hm⟩ := h.b.p.mov
  refine (radv_any w F Fm k.g k.s0 k.s1 k.m N S ext done true hm (by omega)).mono ?_
  rintro e w' ⟨-, he⟩
  obtain ⟨rfl, hm', hf⟩ := he rfl
  exact ⟨rfl, h.turn ⟨F, hm'⟩ ⟨hf, fun j hj => .inl hj⟩ hd h.pl.next h.en.next h.lg h.wr⟩
/-- The word is stored in the row. -/
theorem EY.store (h : EY W w Fm k bW cW N S ext done cp old new want wrow ro rn L) (a v : Nat) : EY W (w.setCell ⟨bW, a, none⟩ (.int .u64 (v : Int))) Fm k bW cW N S ext done cp old new want (wrow.set a v) ro rn L := by
  have hf := fr_set w bW a (.int .u64 (v : Int))
  have hr := (h.wt.stored a (.int .u64 (v : Int))).1
  rw [uv_set] at hr
  have hap := h.ap
  have hlo := h.lo
  have hp := h.b.p
  have n1 : bW ≠ k.pb := own_cs_ne h.wt hp.pair (by decide)
  have n2 : bW ≠ k.rb := own_cs_ne h.wt hp.ref (by decide)
  have n3 : bW ≠ k.bL := own2_ne h.wt hp.spans (by decide)
  have own : ∀ {t : TypeId} {k c n : Nat} {x : Nat} {xs : List Value}, w.ownsRow 0 t k (.slice (some ⟨x, 0, none⟩) n c) n xs → bW ≠ x → (w.setCell ⟨bW, a, none⟩ (.int .u64 (v : Int))).ownsRow 0 t k (.slice (some ⟨x, 0, none⟩) n c) n xs := fun h hx => own_fr h hf (fun b hb => by simp [Value.ownBlock] at hb; rw [← hb]; exact fun e => hx e.symm)
  have hp2 : P34 W.heap.size (w.setCell ⟨bW, a, none⟩ (.int .u64 (v : Int))) Fm k.pb k.g k.s0 k.s1 k.m k.rb k.bO k.cO k.bN k.cN k.bL k.cL N S ext done cp 0 false ro rn :=
    ⟨hp.mov.fr hf (fun j hj e => hap (e ▸ hj)), hp.pair.fr hf (fun e => n1 e.symm), own hp.spans n3, hp.ref.fr hf (fun e => n2 e.symm), own hp.ownO h.nO, own hp.ownN h.nN, hp.ne, hp.ap, hp.lo_, hp.lof⟩
  have hb : Below W.heap.size w (w.setCell ⟨bW, a, none⟩ (.int .u64 (v : Int))) := hf.below (Nat.le_of_lt h.b.lt) (fun j hj => by omega)
  exact ⟨⟨hp2, h.b.bel.trans hb, Nat.lt_of_lt_of_le h.b.lt hf.size, h.b.l0, h.b.l1, h.b.n_, h.b.e_, h.b.d_⟩, h.pl, h.en, hr, by rw [List.length_set]; exact h.wl, hap, hlo, h.nO, h.nN, h.src.set hlo _, h.lg, h.wr⟩
theorem EY.at_ (h : EY W w Fm k bW cW N S ext done cp old new want wrow ro rn L) (a : Nat) (ha : a < N) : w.cell? ⟨bW, a, none⟩ = some (.int .u64 ((wrow[a]?.getD 0 : Nat) : Int)) ∧ w.frozen? ⟨bW, a, none⟩ = false :=
  ⟨(h.wt.cellAt a (by omega)).trans (uv_get (by rw [h.wl]; exact ha)), h.wt.frozenAt a⟩
end

end Go.Proofs.Ytpcjdmbnlhjlaaa
