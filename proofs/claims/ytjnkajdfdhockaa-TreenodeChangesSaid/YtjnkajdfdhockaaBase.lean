/-
  General words for memory and small lemmas: no program in sight.
-/
import Derived.WalkKit
import Derived.WalkSpells
import Derived.WalkLawsBesides
import Derived.Lib.Hide
import Derived.Maps.AppendAt
import Derived.Deep.AppendLies
import Derived.RegionTactic
import Derived.OwnWalk
import Derived.Deep.QuietTactic
import Derived.BigQuiet
import Derived.StillTailTactics
import Derived.Deep.RegionLaw
import Derived.Deep.RegionHeld3
import Derived.Laws.CopyOwn
import Derived.OpenShut
namespace Go.Proofs.Ytjnkajdfdhockaa
set_option linter.unusedVariables false
open Go.RowKit

theorem ret_int {k : IntKind} {a b : Int} (h : a = b) : Ending.returned (.int k a) = .returned (.int k b) := by rw [h]
theorem ret_bool {a b : Bool} (h : a = b) : Ending.returned (.bool a) = .returned (.bool b) := by rw [h]
theorem val_int {k : IntKind} {a b : Int} (h : a = b) : Value.int k a = .int k b := by rw [h]
theorem val_bool {a b : Bool} (h : a = b) : Value.bool a = .bool b := by rw [h]
theorem val_slice {A : Option Addr} {a b c d : Nat} (h : a = b) (h' : c = d) : Value.slice A a c = .slice A b d := by rw [h, h']

/-- The cells of a slice at A hold the values vs (one cell each): nil or not, of whatever capacity. -/
def Reads (w : World) (A : Option Addr) (vs : List Value) : Prop :=
  vs.length ≠ 0 → ∃ b off, A = some ⟨b, off, none⟩ ∧ b < w.heap.size ∧ ∀ i v, vs[i]? = some v → w.cell? ⟨b, off + i, none⟩ = some v

theorem Reads.keep {w w' : World} {A : Option Addr} {vs : List Value} (h : Reads w A vs) (hb : Below w.heap.size w w') : Reads w' A vs := by
  intro hz
  obtain ⟨b, off, e, hlt, hc⟩ := h hz
  exact ⟨b, off, e, Nat.lt_of_lt_of_le hlt hb.size, fun i v hi => (hb.cell (p := ⟨b, off + i, none⟩) hlt).trans (hc i v hi)⟩
theorem Reads.drewN {w : World} {A : Option Addr} {vs : List Value} (h : Reads w A vs) (n : Nat) : Reads (w.drewN n) A vs := h
theorem Reads.nil {w : World} {A : Option Addr} : Reads w A [] := fun h => absurd rfl h

theorem Reads.take' {w : World} {A : Option Addr} {vs : List Value} (h : Reads w A vs) (n : Nat) : Reads w A (vs.take n) := by
  intro hz
  obtain ⟨b, off, e, hb, hc⟩ := h (by intro e; apply hz; simp [e])
  refine ⟨b, off, e, hb, fun i v hi => hc i v ?_⟩
  have hlt := (List.getElem?_eq_some_iff.1 hi).1
  rw [List.getElem?_take, if_pos (by simp at hlt; omega)] at hi
  exact hi

/-- The values of words, of ints. -/
def uv (l : List Nat) : List Value := l.map fun n : Nat => .int .u64 (n : Int)
def iv (l : List Int) : List Value := l.map fun n => .int .i64 n
def W64 (l : List Nat) : Prop := ∀ x ∈ l, x < 18446744073709551616
def I64 (l : List Int) : Prop := ∀ x ∈ l, -9223372036854775808 ≤ x ∧ x ≤ 9223372036854775807

theorem uv_length (l : List Nat) : (uv l).length = l.length := by simp [uv]
theorem iv_length (l : List Int) : (iv l).length = l.length := by simp [iv]
theorem uv_append (l m : List Nat) : uv (l ++ m) = uv l ++ uv m := by simp [uv]
theorem iv_append (l m : List Int) : iv (l ++ m) = iv l ++ iv m := by simp [iv]
theorem uv_at (l : List Nat) (i : Nat) (h : i < l.length) : (uv l)[i]? = some (.int .u64 ((l[i]?.getD 0 : Nat) : Int)) := by simp [uv, h]
theorem iv_at (l : List Int) (i : Nat) (h : i < l.length) : (iv l)[i]? = some (.int .i64 (l[i]?.getD 0)) := by simp [iv, h]
theorem uv_one (l : List Nat) : ∀ u ∈ uv l, u.oneCell' = true := by
  intro u hu
  obtain ⟨x, _, rfl⟩ := List.mem_map.1 hu
  rfl
theorem iv_one (l : List Int) : ∀ u ∈ iv l, u.oneCell' = true := by
  intro u hu
  obtain ⟨x, _, rfl⟩ := List.mem_map.1 hu
  rfl
theorem uv_inj {l m : List Nat} (h : uv l = uv m) : l = m := by
  unfold uv at h
  refine List.map_inj_right ?_ |>.1 h
  intro x y e
  injection e with _ e
  omega
theorem W64.at {l : List Nat} (h : W64 l) (i : Nat) : l[i]?.getD 0 < 18446744073709551616 := by
  rcases Nat.lt_or_ge i l.length with hi | hi
  · rw [List.getElem?_eq_getElem hi]; exact h _ (List.getElem_mem hi)
  · rw [List.getElem?_eq_none hi]; decide
theorem W64.set {l : List Nat} (h : W64 l) (i x : Nat) (hx : x < 18446744073709551616) : W64 (l.set i x) := by
  intro y hy
  rcases List.mem_or_eq_of_mem_set hy with hm | rfl
  · exact h y hm
  · exact hx
theorem I64.at {l : List Int} (h : I64 l) (i : Nat) : -9223372036854775808 ≤ l[i]?.getD 0 ∧ l[i]?.getD 0 ≤ 9223372036854775807 := by
  rcases Nat.lt_or_ge i l.length with hi | hi
  · rw [List.getElem?_eq_getElem hi]; exact h _ (List.getElem_mem hi)
  · rw [List.getElem?_eq_none hi]; decide

theorem Reads.u {w : World} {A : Option Addr} {l : List Nat} (h : Reads w A (uv l)) (hl : l.length ≠ 0) :
    ∃ b off, A = some ⟨b, off, none⟩ ∧ b < w.heap.size ∧ ∀ i, i < l.length → w.cell? ⟨b, off + i, none⟩ = some (.int .u64 ((l[i]?.getD 0 : Nat) : Int)) := by
  obtain ⟨b, off, e, hb, hc⟩ := h (by rw [uv_length]; exact hl)
  exact ⟨b, off, e, hb, fun i hi => hc i _ (uv_at l i hi)⟩
theorem Reads.i {w : World} {A : Option Addr} {l : List Int} (h : Reads w A (iv l)) (hl : l.length ≠ 0) :
    ∃ b off, A = some ⟨b, off, none⟩ ∧ b < w.heap.size ∧ ∀ i, i < l.length → w.cell? ⟨b, off + i, none⟩ = some (.int .i64 (l[i]?.getD 0)) := by
  obtain ⟨b, off, e, hb, hc⟩ := h (by rw [iv_length]; exact hl)
  exact ⟨b, off, e, hb, fun i hi => hc i _ (iv_at l i hi)⟩

theorem Reads.of_own {w : World} {base : Nat} {e : TypeId} {size n c : Nat} {A : Option Addr} {xs : List Value} (h : w.ownsRow base e size (.slice A n c) n xs) : Reads w A xs := by
  intro hz
  rcases h.2 with ⟨_, h2⟩ | ⟨g, cap, cur, hv, _, hg, _⟩
  · exact absurd (by rw [h.1, h2]; simp) hz
  · have hA : A = some ⟨g, 0, none⟩ := by injection hv
    subst hA
    refine ⟨g, 0, rfl, (Array.getElem?_eq_some_iff.1 hg).1, fun i v hi => ?_⟩
    have := h.cells (g := g) rfl i v hi
    rwa [Addr.add_lit] at this

theorem Reads.new (w : World) (cs : Array Value) (t : TypeId) : Reads (w.alloc (.cells cs t)) (some ⟨w.heap.size, 0, none⟩) cs.toList := by
  intro _
  refine ⟨w.heap.size, 0, rfl, by simp, fun i v hi => ?_⟩
  rw [World.cell?_alloc_at _ _ _ _ rfl, Nat.zero_add]
  simpa using hi
theorem Reads.alloc {w : World} {A : Option Addr} {vs : List Value} (h : Reads w A vs) (o : Obj) : Reads (w.alloc o) A vs := h.keep ((Below.refl _ _).alloc (Nat.le_refl _) _)

/-- A slice value with its capacity's bound, that reads as vs. -/
theorem own_form {w : World} {base : Nat} {e : TypeId} {size n : Nat} {v : Value} {xs : List Value} (h : w.ownsRow base e size v n xs) : ∃ A c, v = .slice A n c := by
  rcases h.2 with ⟨hv, h2⟩ | ⟨g, cap, cur, hv, _⟩
  · exact ⟨none, 0, by rw [hv, h2]⟩
  · exact ⟨_, cap, hv⟩

section
variable {P : Program} (w : World)

theorem run_append_of_nil (base : Nat) (t ty e : TypeId) (i : TypeInfo) (size : Nat) (ht : P.underlying t = some (.slice e)) (hi : P.info? e = some i)
    (v : Value) (n : Nat) (xs : List Value) (hown : w.ownsRow base e size v n xs) (c : Nat) : (Builtin.append_ #[t, t] ty #[v, .slice none 0 c]).run P w = .ok v w := by
  rcases hown.2 with ⟨rfl, rfl⟩ | ⟨g, cap, cur, rfl, _, _, hnc, _⟩
  · simp [Builtin.append_, run_underlying ht, sizeOf, typeInfo, hi, Builtin.lenOf, Builtin.firstCells]
  · simp [Builtin.append_, run_underlying ht, sizeOf, typeInfo, hi, Builtin.lenOf, Builtin.firstCells, hnc, storeCells]

theorem run_append_reads (base : Nat) (t ty e : TypeId) (i : TypeInfo) (z : Value) (size bytes : Nat) (ht : P.underlying t = some (.slice e)) (hi : P.info? e = some i) (hz : i.zero = some z)
    (hsize : i.size = size) (hby : i.bytes = bytes) (hzs : z.cells.size = size) (hsz : 0 < size)
    (v : Value) (n : Nat) (xs : List Value) (hown : w.ownsRow base e size v n xs)
    (A : Option Addr) (m c : Nat) (news : List Value) (hm : news.length = m * size) (hr : Reads w A news) (h1 : ∀ u ∈ news, u.oneCell' = true)
    (h63 : n + m ≤ maxLen) (hbytes : (n + m) * bytes ≤ 140737488355328) (hbase : base ≤ w.heap.size) :
    ∃ v' w', (Builtin.append_ #[t, t] ty #[v, .slice A m c]).run P w = .ok v' w' ∧ w'.ownsRow base e size v' (n + m) (xs ++ news) ∧ w.grownBy w' v.ownBlock ∧
      (v'.ownBlock = v.ownBlock ∨ v'.ownBlock = some w.heap.size) := by
  rcases A with _ | ad
  · have hm0 : m = 0 := by
      rcases Nat.eq_zero_or_pos m with h0 | h0
      · exact h0
      · obtain ⟨b, off, h, _⟩ := hr (by rw [hm]; exact Nat.ne_of_gt (Nat.mul_pos h0 hsz))
        cases h
    subst hm0
    have hn : news = [] := List.eq_nil_of_length_eq_zero (by simpa using hm)
    subst hn
    exact ⟨v, w, run_append_of_nil w base t ty e i size ht hi v n xs hown c, by simpa using hown, World.grownBy.refl w _, .inl rfl⟩
  · have hcells : ∀ j u, news[j]? = some u → w.cell? (ad.add j) = some u := by
      intro j u hu
      obtain ⟨b, off, h, _, hc⟩ := hr (by
        intro h0
        rw [List.eq_nil_of_length_eq_zero h0] at hu
        cases hu)
      injection h with h
      subst h
      rw [Addr.add_lit]
      exact hc j u hu
    obtain ⟨v', w', hrun, h2, h3, _, h5⟩ := run_append_own_at (P := P) w base t ty e i z size bytes ht hi hz hsize hby hzs hsz v n xs hown ad m c news hm hcells h1 h63 hbytes hbase
    exact ⟨v', w', hrun, h2, h3, h5⟩

theorem wp_append_reads {o : Oper} {a : Act} {K : Act → World → Prop} {Q : Exit → Act → World → Prop} (s x : Operand) (t : TypeId)
    (ho : o.op = .call { callee := .builtin .append, args := #[s, x], argTypes := #[t, t] })
    (base : Nat) (e : TypeId) (i : TypeInfo) (z : Value) (size bytes : Nat) (ht : P.underlying t = some (.slice e)) (hi : P.info? e = some i) (hz : i.zero = some z)
    (hsize : i.size = size) (hby : i.bytes = bytes) (hzs : z.cells.size = size) (hsz : 0 < size)
    (v : Value) (n : Nat) (xs : List Value) (hs : a.eval s = v) (hown : w.ownsRow base e size v n xs)
    (A : Option Addr) (m c : Nat) (news : List Value) (hx : a.eval x = .slice A m c) (hm : news.length = m * size) (hr : Reads w A news) (h1 : ∀ u ∈ news, u.oneCell' = true)
    (h63 : n + m ≤ maxLen) (hbytes : (n + m) * bytes ≤ 140737488355328) (hbase : base ≤ w.heap.size)
    (h : ∀ v' w', w'.ownsRow base e size v' (n + m) (xs ++ news) → w.grownBy w' v.ownBlock → (v'.ownBlock = v.ownBlock ∨ v'.ownBlock = some w.heap.size) → K (a.put o.dst v') w') : o.wp P a w K Q := by
  obtain ⟨v', w', hrun, h2, h3, h4⟩ := run_append_reads (P := P) w base t o.type e i z size bytes ht hi hz hsize hby hzs hsz v n xs hown A m c news hm hr h1 h63 hbytes hbase
  unfold Oper.wp execOp
  simp only [ho, resolve, invoke, builtin, Sem.run_bind, Sem.run_pure, Result.andThen_ok, List.map_toArray, List.map_cons, List.map_nil, hs, hx, hrun]
  exact h v' w' h2 h3 h4

theorem wpList_append_reads {ops : Array Oper} {rest : List Oper} {o : Oper} {a : Act} {Q : Exit → Act → World → Prop} (hgd : o.guard = none) (s x : Operand) (t : TypeId)
    (ho : o.op = .call { callee := .builtin .append, args := #[s, x], argTypes := #[t, t] })
    (base : Nat) (e : TypeId) (i : TypeInfo) (z : Value) (size bytes : Nat) (ht : P.underlying t = some (.slice e)) (hi : P.info? e = some i) (hz : i.zero = some z)
    (hsize : i.size = size) (hby : i.bytes = bytes) (hzs : z.cells.size = size) (hsz : 0 < size)
    (v : Value) (n : Nat) (xs : List Value) (hs : a.eval s = v) (hown : w.ownsRow base e size v n xs)
    (A : Option Addr) (m c : Nat) (news : List Value) (hx : a.eval x = .slice A m c) (hm : news.length = m * size) (hr : Reads w A news) (h1 : ∀ u ∈ news, u.oneCell' = true)
    (h63 : n + m ≤ maxLen) (hbytes : (n + m) * bytes ≤ 140737488355328) (hbase : base ≤ w.heap.size)
    (h : ∀ v' w', w'.ownsRow base e size v' (n + m) (xs ++ news) → w.grownBy w' v.ownBlock → (v'.ownBlock = v.ownBlock ∨ v'.ownBlock = some w.heap.size) → wpList P ops Q rest (a.put o.dst v') w') : wpList P ops Q (o :: rest) a w :=
  wpList_plain hgd fun _ hK => wp_append_reads w s x t ho base e i z size bytes ht hi hz hsize hby hzs hsz v n xs hs hown A m c news hx hm hr h1 h63 hbytes hbase fun v' w' h2 h3 h4 => hK _ _ (h v' w' h2 h3 h4)

theorem step_append_reads {ops : Array Oper} {o : Oper} {a : Act} {K : Act → World → Prop} {Q : Exit → Act → World → Prop} {E : Prop} (hgd : o.guard = none) (s x : Operand) (t : TypeId)
    (ho : o.op = .call { callee := .builtin .append, args := #[s, x], argTypes := #[t, t] })
    (base : Nat) (e : TypeId) (i : TypeInfo) (z : Value) (size bytes : Nat) (ht : P.underlying t = some (.slice e)) (hi : P.info? e = some i) (hz : i.zero = some z)
    (hsize : i.size = size) (hby : i.bytes = bytes) (hzs : z.cells.size = size) (hsz : 0 < size)
    (v : Value) (n : Nat) (xs : List Value) (hs : a.eval s = v) (hown : w.ownsRow base e size v n xs)
    (A : Option Addr) (m c : Nat) (news : List Value) (hx : a.eval x = .slice A m c) (hm : news.length = m * size) (hr : Reads w A news) (h1 : ∀ u ∈ news, u.oneCell' = true)
    (h63 : n + m ≤ maxLen) (hbytes : (n + m) * bytes ≤ 140737488355328) (hbase : base ≤ w.heap.size)
    (h : ∀ v' w', w'.ownsRow base e size v' (n + m) (xs ++ news) → w.grownBy w' v.ownBlock → (v'.ownBlock = v.ownBlock ∨ v'.ownBlock = some w.heap.size) → K (a.put o.dst v') w') :
    if Region.wanted o (yielded ops a.tmps) = true then Oper.wp P o a w K Q else E := by
  have hw : Region.wanted o (yielded ops a.tmps) = true := by simp [Region.wanted, hgd]
  rw [if_pos hw]
  exact wp_append_reads w s x t ho base e i z size bytes ht hi hz hsize hby hzs hsz v n xs hs hown A m c news hx hm hr h1 h63 hbytes hbase h
end

/-- What a function that only makes memory of its own leaves: a slice of words in new memory. -/
def OwnU (t : TypeId) (w0 w : World) (v : Value) (l : List Nat) : Prop := w.ownsRow w0.heap.size t 1 v l.length (uv l)

end Go.Proofs.Ytjnkajdfdhockaa
