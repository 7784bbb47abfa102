/-
  The reader of numbers (volumegroupmake.Src): New, Raw, N, Range.
-/
import Derived.Test.YtpcjdmbnlhjlaaaGa
import Derived.Test.YtpcjdmbnlhjlaaaRows
namespace Go.Proofs.Ytpcjdmbnlhjlaaa
set_option linter.unusedVariables false
open Go.RowKit

/-- Block g is a reader of numbers; what it reads lies in older memory. -/
def SrcAt (W : World) (g : Nat) : Prop :=
  ∃ (w0 : World) (A : Option Addr) (n c : Nat) (at0 : Nat) (L : List Int), W.heap[g]? = some (.cells #[.slice A n c, .int .i64 (at0 : Int)] 70 (0, 0)) ∧
    Reads w0 A (iv L) ∧ L.length = n ∧ I64 L ∧ at0 ≤ n ∧ n ≤ 1000 ∧ w0.heap.size ≤ g ∧ Below w0.heap.size w0 W

theorem SrcAt.lt {W : World} {g : Nat} (h : SrcAt W g) : g < W.heap.size := by
  obtain ⟨w0, A, n, c, at0, L, h1, _⟩ := h
  exact (Array.getElem?_eq_some_iff.1 h1).1
theorem SrcAt.below {W W' : World} {g B : Nat} (h : SrcAt W g) (hb : Below B W W') (hg : g < B) : SrcAt W' g := by
  obtain ⟨w0, A, n, c, at0, L, h1, h2, h3, h4, h5, h6, h7, h8⟩ := h
  exact ⟨w0, A, n, c, at0, L, (hb.block g hg).trans h1, h2, h3, h4, h5, h6, h7, h8.trans (hb.mono (by omega))⟩
theorem SrcAt.grown {W W' : World} {g : Nat} {row : Option Nat} (h : SrcAt W g) (hg : W.grownBy W' row) (hr : ∀ r, row = some r → g < r) : SrcAt W' g := by
  have hlt := h.lt
  exact h.below (B := g + 1) ((Below.refl _ W).grown hg (by omega) (fun k e => by have := hr k e; omega)) (by omega)

theorem only_drewN_refl (W : World) (n : Nat) {row : Option Nat} : W.grownBy (W.drewN n) row := ⟨rfl, rfl, rfl, Nat.le_refl _, fun _ _ _ => rfl⟩
theorem only_drewN' {a w : World} {row : Option Nat} (h : a.grownBy w row) (n : Nat) : a.grownBy (w.drewN n) row := ⟨h.os, h.tape, h.output, h.size, h.block⟩

set_option maxHeartbeats 400000 in
theorem new_any (A : Option Addr) (n c : Nat) (l : List Int) (w : World) (hN : l.length = n) (hA : Reads w A (iv l)) (hw : I64 l) (hl : n ≤ c) :
    Calls Try.prog 7 #[.slice A n c] w fun e w' => e = .returned (.pointer (some ⟨w.heap.size, 0, none⟩)) ∧ SrcAt w' w.heap.size ∧ Below w.heap.size w w' ∧ w'.heap.size = w.heap.size + 1 := by
  by_cases h : 1000 < n
  · have h' : 1000 < (n : Int) := by omega
    have h2 : (1000 : Int) ≤ (c : Int) := by omega
    have h3 : ¬ c < 1000 := by omega
    go_enter Try.func7, Try.ntmps7
    go_wp2
    go_ret
    refine ⟨rfl, ?_, (Below.refl _ _).alloc (Nat.le_refl _) _, by simp⟩
    refine ⟨w, A, 1000, c, 0, l.take 1000, heap_alloc_new w _, ?_, by simp; omega, fun x hx => hw x (List.mem_of_mem_take hx), Nat.zero_le _, by omega, Nat.le_refl _, (Below.refl _ _).alloc (Nat.le_refl _) _⟩
    have := hA.take' 1000
    unfold iv at this ⊢
    rw [List.map_take]
    exact this
  · have h' : ¬ 1000 < (n : Int) := by omega
    go_enter Try.func7, Try.ntmps7
    go_wp2
    go_ret
    refine ⟨rfl, ?_, (Below.refl _ _).alloc (Nat.le_refl _) _, by simp⟩
    exact ⟨w, A, n, c, 0, l, heap_alloc_new w _, hA, hN, hw, Nat.zero_le _, by omega, Nat.le_refl _, (Below.refl _ _).alloc (Nat.le_refl _) _⟩

set_option maxHeartbeats 400000 in
theorem raw_any (g : Nat) (W : World) (h : SrcAt W g) :
    Calls Try.prog 32 #[.pointer (some ⟨g, 0, none⟩)] W fun e W' => ∃ r : Int, e = .returned (.int .i64 r) ∧ -9223372036854775808 ≤ r ∧ r ≤ 9223372036854775807 ∧ SrcAt W' g ∧ W.grownBy W' (some g) := by
  obtain ⟨w0, A, n, c, k, L, h1, h2, h3, h4, h5, h6, h7, h8⟩ := h
  have hc0 : W.cell? ⟨g, 0, none⟩ = some (.slice A n c) := cell_of_row W g 0 _ _ _ h1
  have hc1 : W.cell? ⟨g, 1, none⟩ = some (.int .i64 (k : Int)) := cell_of_row W g 1 _ _ _ h1
  have hf1 : W.frozen? ⟨g, 1, none⟩ = false := frozen_of_row W g 1 _ _ h1
  by_cases hk : k < n
  · have hk' : ¬ (n : Int) ≤ (k : Int) := by omega
    have hL := I64.at h4 k
    obtain ⟨b, off, rfl, hb, hcs⟩ := h2.i (by omega)
    have hcl := (h8.cell (p := ⟨b, off + k, none⟩) hb).trans (hcs k (by omega))
    obtain ⟨r, er⟩ : ∃ r, L[k]?.getD 0 = r := ⟨_, rfl⟩
    rw [er] at hcl hL
    have hne : b ≠ g := by omega
    have H1 := Lib.hid h1
    have H3 := Lib.hid h3
    clear er hcs h1 h3
    go_enter Try.func32, Try.ntmps32
    go_wp2
    go_quiet (fail)
    go_wp2
    have hg : W.grownBy ((W.drewN nq).setCell ⟨g, 1, none⟩ (.int .i64 ((k : Int) + 1))) (some g) :=
      ⟨rfl, rfl, rfl, by simp, fun j _ hj => Below.heap_setCell _ _ _ j (fun e => hj (by rw [e]))⟩
    have hW2 : SrcAt ((W.drewN nq).setCell ⟨g, 1, none⟩ (.int .i64 ((k : Int) + 1))) g := by
      refine ⟨w0, some ⟨b, off, none⟩, n, c, k + 1, L, ?_, h2, H3.out, h4, by omega, h6, h7, (below_drewN h8 nq).setCell (p := ⟨g, 1, none⟩) h7 _⟩
      have := heap_setCell_same (W.drewN nq) g 1 _ 70 (.int .i64 ((k : Int) + 1)) H1.out
      exact this
    have d0 : ((W.drewN nq).setCell ⟨g, 1, none⟩ (.int .i64 ((k : Int) + 1))).cell? ⟨g, 0, none⟩ = some (.slice (some ⟨b, off, none⟩) n c) := (World.cell?_setCell_other _ _ _ _ (by simp)).trans hc0
    have d1 : ((W.drewN nq).setCell ⟨g, 1, none⟩ (.int .i64 ((k : Int) + 1))).cell? ⟨g, 1, none⟩ = some (.int .i64 ((k : Int) + 1)) := World.cell?_setCell_same _ _ _ hc1
    have d2 : ((W.drewN nq).setCell ⟨g, 1, none⟩ (.int .i64 ((k : Int) + 1))).cell? ⟨b, off + k, none⟩ = some (.int .i64 r) := (World.cell?_setCell_other _ _ _ _ (fun e => hne (congrArg Addr.block e).symm)).trans hcl
    generalize ((W.drewN nq).setCell _ _) = W2 at hg hW2 d0 d1 d2 ⊢
    have t1 : IntKind.i64.wrap (k : Int) = (k : Int) := IntWalk.i64_in _ (by omega)
    have t2 : (0 : Int) ≤ (k : Int) := by omega
    clear hc0 hc1 hf1 hcl
    go_quiet (fail)
    go_wp2
    go_ret
    exact ⟨r, rfl, hL.1, hL.2, hW2.grown (row := none) (only_drewN_refl _ _) (fun r e => by cases e), only_drewN' hg _⟩
  · have hk' : (n : Int) ≤ (k : Int) := by omega
    have H0 : SrcAt W g := ⟨w0, A, n, c, k, L, h1, h2, h3, h4, h5, h6, h7, h8⟩
    clear h1 h3
    go_enter Try.func32, Try.ntmps32
    go_wp2
    go_quiet (fail)
    go_wp2
    go_ret
    exact ⟨0, rfl, by omega, by omega, H0.grown (row := none) (only_drewN_refl _ _) (fun r e => by cases e), only_drewN_refl _ _⟩

set_option maxHeartbeats 400000 in
theorem n_any (g : Nat) (n : Int) (W : World) (h : SrcAt W g) (h1 : 1 ≤ n) (h2 : n ≤ 1000000000000) :
    Calls Try.prog 9 #[.pointer (some ⟨g, 0, none⟩), .int .i64 n] W fun e W' => ∃ r : Int, e = .returned (.int .i64 r) ∧ 0 ≤ r ∧ r < n ∧ SrcAt W' g ∧ W.grownBy W' (some g) := by
  have h1' : ¬ n < 1 := by omega
  go_enter Try.func9, Try.ntmps9
  go_wp2_with fail
  refine (raw_any g W h).mono ?_
  rintro e W2 ⟨r, rfl, hr1, hr2, hs, hg⟩
  have t1 := Int.tmod_lt_of_pos r (b := n) (by omega)
  have t2 : -n < r.tmod n := Int.lt_tmod_of_pos r (by omega)
  obtain ⟨T, hT⟩ : ∃ T, r.tmod n = T := ⟨_, rfl⟩
  rw [hT] at t1 t2
  have hz : n ≠ 0 := by omega
  by_cases hneg : T < 0
  · go_wp2_with fail
    go_ret
    exact ⟨_, rfl, by omega, by omega, hs, hg⟩
  · go_wp2_with fail
    go_ret
    exact ⟨_, rfl, by omega, by omega, hs, hg⟩

set_option maxHeartbeats 400000 in
theorem range_any (g : Nat) (lo hi : Int) (W : World) (h : SrcAt W g) (h1 : lo ≤ hi) (h2 : hi ≤ 100000000000) (h3 : -100000000000 ≤ lo) :
    Calls Try.prog 8 #[.pointer (some ⟨g, 0, none⟩), .int .i64 lo, .int .i64 hi] W fun e W' => ∃ r : Int, e = .returned (.int .i64 r) ∧ lo ≤ r ∧ r ≤ hi ∧ SrcAt W' g ∧ W.grownBy W' (some g) := by
  go_enter Try.func8, Try.ntmps8
  go_wp2_with fail
  refine (n_any g _ W h (by omega) (by omega)).mono ?_
  rintro e W2 ⟨r, rfl, hr1, hr2, hs, hg⟩
  go_wp2_with fail
  go_ret
  exact ⟨_, rfl, by omega, by omega, hs, hg⟩

end Go.Proofs.Ytpcjdmbnlhjlaaa

namespace Go.Proofs.Ytpcjdmbnlhjlaaa
set_option linter.unusedVariables false
open Go.RowKit

theorem own_lower {w : World} {base base' : Nat} {e : TypeId} {size n : Nat} {v : Value} {xs : List Value} (h : w.ownsRow base e size v n xs) (hb : base' ≤ base) : w.ownsRow base' e size v n xs :=
  ⟨h.1, h.2.imp id fun ⟨g, cap, cur, q1, q2, q3⟩ => ⟨g, cap, cur, q1, by omega, q3⟩⟩

/-- A block that is known whole. -/
def Cs (w : World) (g : Nat) (t : TypeId) (cs : Array Value) : Prop := w.heap[g]? = some (.cells cs t (0, 0))

theorem Cs.lt {w : World} {g : Nat} {t : TypeId} {cs : Array Value} (h : Cs w g t cs) : g < w.heap.size := (Array.getElem?_eq_some_iff.1 h).1

theorem Cs.cell {w : World} {g : Nat} {t : TypeId} {cs : Array Value} (h : Cs w g t cs) (i : Nat) : w.cell? ⟨g, i, none⟩ = cs[i]? := cell_of_row w g i cs t (0, 0) h

theorem Cs.free {w : World} {g : Nat} {t : TypeId} {cs : Array Value} (h : Cs w g t cs) (i : Nat) : w.frozen? ⟨g, i, none⟩ = false := frozen_of_row w g i cs t h

theorem Cs.below {w w' : World} {g B : Nat} {t : TypeId} {cs : Array Value} (h : Cs w g t cs) (hb : Below B w w') (hg : g < B) : Cs w' g t cs := (hb.block g hg).trans h

theorem Cs.new (w : World) (t : TypeId) (cs : Array Value) : Cs (w.alloc (.cells cs t)) w.heap.size t cs := heap_alloc_new w _

theorem Cs.grown {w w' : World} {g : Nat} {t : TypeId} {cs : Array Value} {row : Option Nat} (h : Cs w g t cs) (hg : w.grownBy w' row) (hr : some g ≠ row) : Cs w' g t cs := (hg.block g h.lt hr).trans h

theorem Cs.alloc {w : World} {g : Nat} {t : TypeId} {cs : Array Value} (h : Cs w g t cs) (o : Obj) : Cs (w.alloc o) g t cs := h.below ((Below.refl _ w).alloc (Nat.le_refl _) o) h.lt

theorem own_keepB {w w' : World} {base : Nat} {e : TypeId} {size n : Nat} {v : Value} {xs : List Value} (h : w.ownsRow base e size v n xs) (hb : Below w.heap.size w w') : w'.ownsRow base e size v n xs :=
  ⟨h.1, h.2.imp id fun ⟨g, cap, cur, q1, q2, q3, q4⟩ => ⟨g, cap, cur, q1, q2, (hb.block g (Array.getElem?_eq_some_iff.1 q3).1).trans q3, q4⟩⟩

theorem grown_undrew {w w' : World} {row : Option Nat} (h : w.drew.grownBy w' row) : w.grownBy w' row := ⟨h.os, h.tape, h.output, h.size, h.block⟩

theorem own_cap {w : World} {base n c : Nat} {e : TypeId} {size : Nat} {A : Option Addr} {xs : List Value} (h : w.ownsRow base e size (.slice A n c) n xs) : n ≤ c := by
  rcases h.2 with ⟨h1, h2⟩ | ⟨g, cap, cur, h1, _, _, h3, _⟩
  · omega
  · injection h1 with _ _ h1; omega

/-- What a law's walk holds of memory: blocks that are known whole, slices that read as lists; nothing older has changed. -/
def Env (w W : World) (cs : List (Nat × TypeId × Array Value)) (rs : List (Option Addr × List Value)) : Prop :=
  Below w.heap.size w W ∧ (∀ c ∈ cs, Cs W c.1 c.2.1 c.2.2) ∧ (∀ r ∈ rs, Reads W r.1 r.2)

theorem Env.keep {w W W' : World} {cs : List (Nat × TypeId × Array Value)} {rs : List (Option Addr × List Value)} (h : Env w W cs rs) (hb : Below W.heap.size W W') : Env w W' cs rs :=
  ⟨h.1.trans (hb.mono h.1.size), fun c hc => (h.2.1 c hc).below hb (h.2.1 c hc).lt, fun r hr => (h.2.2 r hr).keep hb⟩

theorem Env.start {w W : World} (h : Below w.heap.size w W) : Env w W [] [] := ⟨h, (fun c hc => absurd hc (by simp)), (fun r hr => absurd hr (by simp))⟩

theorem Env.alloc {w W : World} {cs : List (Nat × TypeId × Array Value)} {rs : List (Option Addr × List Value)} (h : Env w W cs rs) (o : Obj) : Env w (W.alloc o) cs rs := h.keep ((Below.refl _ W).alloc (Nat.le_refl _) o)

theorem Env.cons {w W : World} {cs : List (Nat × TypeId × Array Value)} {rs : List (Option Addr × List Value)} (h : Env w W cs rs) {g : Nat} {t : TypeId} {a : Array Value} (hc : Cs W g t a) : Env w W ((g, t, a) :: cs) rs :=
  ⟨h.1, (fun c hm => (List.mem_cons.1 hm).elim (fun e => by rw [e]; exact hc) (h.2.1 c)), h.2.2⟩

theorem Env.row {w W : World} {cs : List (Nat × TypeId × Array Value)} {rs : List (Option Addr × List Value)} (h : Env w W cs rs) {A : Option Addr} {xs : List Value} (hr : Reads W A xs) : Env w W cs ((A, xs) :: rs) :=
  ⟨h.1, h.2.1, (fun r hm => (List.mem_cons.1 hm).elim (fun e => by rw [e]; exact hr) (h.2.2 r))⟩

theorem Env.new {w W : World} {cs : List (Nat × TypeId × Array Value)} {rs : List (Option Addr × List Value)} (h : Env w W cs rs) (t : TypeId) (a : Array Value) : Env w (W.alloc (.cells a t)) ((W.heap.size, t, a) :: cs) rs := (h.alloc _).cons (Cs.new W t a)

theorem reads_at {W : World} {g : Nat} {E : List Nat} (h : Reads W (some ⟨g, 0, none⟩) (uv E)) (i : Nat) (hi : i < E.length) : W.cell? ⟨g, i, none⟩ = some (.int .u64 ((E[i]?.getD 0 : Nat) : Int)) := by
  obtain ⟨b, off, e, _, hc⟩ := h.u (by omega)
  simp only [Option.some.injEq, Addr.mk.injEq] at e
  obtain ⟨rfl, rfl, _⟩ := e
  have := hc i hi
  rwa [Nat.zero_add] at this

/-- Only block g has changed; what is new lies beyond. -/
theorem gb_trans {g : Nat} {A B C : World} (h : A.grownBy B (some g)) (k : B.grownBy C (some g)) : A.grownBy C (some g) :=
  ⟨k.os.trans h.os, k.tape.trans h.tape, k.output.trans h.output, Nat.le_trans h.size k.size, fun j hj hne => (k.block j (Nat.lt_of_lt_of_le hj h.size) hne).trans (h.block j hj hne)⟩

theorem gb_alloc {g : Nat} {A B : World} (h : A.grownBy B (some g)) (o : Obj) : A.grownBy (B.alloc o) (some g) := gb_trans h (World.grownBy_alloc B o _)

theorem gb_set {g : Nat} {A B : World} (h : A.grownBy B (some g)) {b i : Nat} (hb : A.heap.size ≤ b) (u : Value) : A.grownBy (B.setCell ⟨b, i, none⟩ u) (some g) :=
  ⟨h.os, h.tape, h.output, by simpa using h.size, fun j hj hne => (Below.heap_setCell _ _ _ j (by show j ≠ b; omega)).trans (h.block j hj hne)⟩

theorem gb_below {g : Nat} {A B C : World} (h : A.grownBy B (some g)) (k : Below B.heap.size B C) : A.grownBy C (some g) :=
  ⟨k.os.trans h.os, k.tape.trans h.tape, k.output.trans h.output, Nat.le_trans h.size k.size, fun j hj hne => (k.block j (Nat.lt_of_lt_of_le hj h.size)).trans (h.block j hj hne)⟩

theorem gb_refl (g : Nat) (A : World) : A.grownBy A (some g) := World.grownBy.refl A _

theorem gb_Below {g n0 : Nat} {w A B : World} (hb : Below n0 w A) (h : A.grownBy B (some g)) (hn : n0 ≤ A.heap.size) (hg : n0 ≤ g) : Below n0 w B := hb.grown h hn (fun k e => by injection e with e; omega)

theorem SrcAt.alloc {W : World} {g : Nat} (h : SrcAt W g) (o : Obj) : SrcAt (W.alloc o) g := h.below (B := W.heap.size) ((Below.refl _ W).alloc (Nat.le_refl _) o) h.lt

theorem SrcAt.set {W : World} {g b i : Nat} (h : SrcAt W g) (hb : g < b) (u : Value) : SrcAt (W.setCell ⟨b, i, none⟩ u) g := h.below (B := b) ((Below.refl _ W).setCell (p := ⟨b, i, none⟩) (Nat.le_refl _) u) hb

theorem SrcAt.keep {W W' : World} {g : Nat} (h : SrcAt W g) (hb : Below W.heap.size W W') : SrcAt W' g := h.below hb h.lt

set_option maxHeartbeats 400000 in
theorem words_any (n : Nat) (seed : Int) (W : World) (hn : n ≤ 1000) :
    Calls Try.prog 11 #[.int .i64 (n : Int), .int .u64 seed] W fun e W' => ∃ v l, e = .returned v ∧ W'.ownsRow W.heap.size 32 1 v n (uv l) ∧ l.length = n ∧ W64 l ∧ Below W.heap.size W W' := by
  obtain ⟨i0, hi0, hz0, hz1, hz2⟩ := info_parts u64_info
  go_enter Try.func11, Try.ntmps11
  go_wp2_with fail
  go_loopw [5, 6] (fun v i wr => ∃ (k : Nat) (l : List Nat), k ≤ n ∧ i = .int .i64 k ∧ wr.ownsRow W.heap.size 32 1 v k (uv l) ∧ l.length = k ∧ W64 l ∧ Below W.heap.size W wr) (fun _ i _ => n - (intOf i).toNat)
  case atStart => exact ⟨0, [], Nat.zero_le _, rfl, World.ownsRow_nil _ _ _ _, rfl, (fun x hx => absurd hx (by simp)), Below.refl _ _⟩
  case round =>
    obtain ⟨k, l, hk, rfl, hown, hl, hw, hb⟩ := hrel
    obtain ⟨A1, c1, rfl⟩ := own_form hown
    have HL := Lib.hid hl
    have HO := Lib.hid hown
    clear hl hown
    by_cases hlt : k < n
    · go_wp2_with (at_builtin; refine wpList_append_reads _ (by rfl) _ _ _ (by rfl) W.heap.size 32 i0 _ 1 8 Try.underlying30 hi0 hz0 hz1 hz2 (by rfl) (by omega) (.slice A1 k c1) k (uv l) (by rfl) (HO.out.alloc _) (some ⟨wr.heap.size, 0, none⟩) 1 1 _ (by rfl) (by rfl) (Reads.new _ _ _) (by simp [Value.oneCell']) (by simp only [maxLen]; omega) (by omega) (by have := hb.size; simp; omega) ?_; intro v1 w6 hown6 hg6 hat6; have hbb := app_below HO.out hg6 hb.size)
      obtain ⟨y, ey, hy⟩ := any_u64 (seed + IntKind.u64.wrap ((k : Int) * 11400714819323198485))
      rw [ey] at hown6
      have hl1 : (l ++ [y]).length = k + 1 := by rw [List.length_append, HL.out]; rfl
      have ho : w6.ownsRow W.heap.size 32 1 v1 (k + 1) (uv (l ++ [y])) := by rw [uv_append]; exact hown6
      have hw' : W64 (l ++ [y]) := by
        intro x hx
        rcases List.mem_append.1 hx with hx | hx
        · exact hw x hx
        · rw [List.mem_singleton.1 hx]; exact hy
      go_roundw
      case rel => exact ⟨k + 1, l ++ [y], by omega, by go_num, ho, hl1, hw', hb.trans hbb⟩
      case measure => simp [intOf]; omega
    · have hkn : k = n := by omega
      have ho : wr.ownsRow W.heap.size 32 1 (.slice A1 k c1) n (uv l) := by rw [← hkn]; exact HO.out
      have hl1 : l.length = n := by rw [HL.out, hkn]
      have HO1 := Lib.hid ho
      have HL1 := Lib.hid hl1
      clear ho hl1 hkn
      go_wp2_with fail
      go_ret
      exact ⟨_, l, rfl, HO1.out, HL1.out, hw, hb⟩

theorem Env.grown {w W W' : World} {g : Nat} {cs : List (Nat × TypeId × Array Value)} {rs : List (Option Addr × List Value)} (h : Env w W cs rs) (hg : W.grownBy W' (some g)) (hw : w.heap.size ≤ g) (hc : ∀ c ∈ cs, c.1 ≠ g) (hr : ∀ r ∈ rs, Reads W' r.1 r.2) : Env w W' cs rs :=
  ⟨gb_Below h.1 hg h.1.size hw, fun c hm => (h.2.1 c hm).grown hg (by simpa using hc c hm), hr⟩

theorem cell3 {W : World} {g : Nat} {t : TypeId} {a b c : Value} (h : Cs W g t #[a, b, c]) : W.cell? ⟨g, 0, none⟩ = some a ∧ W.cell? ⟨g, 1, none⟩ = some b ∧ W.cell? ⟨g, 2, none⟩ = some c := ⟨h.cell 0, h.cell 1, h.cell 2⟩

end Go.Proofs.Ytpcjdmbnlhjlaaa
