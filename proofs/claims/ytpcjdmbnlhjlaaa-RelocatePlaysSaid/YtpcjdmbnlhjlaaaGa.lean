/-
  General words for memory and small lemmas: no program in sight.
  Bits of words as natural numbers: what the walk writes, in Nat's words. No program in sight.
  The fields of a word, in plain Lean.
  A region that draws its order, in a round of a range over a function, walked by the plain laws: at the wide fence an operation that is no defer statement goes in a round as everywhere.
  A region that draws its order: the head's operations yield the same values in every world that meets S; what follows is forced; S holds till the operation that waits for all of the head.
-/
import Derived.WalkKit
import Derived.WalkSpells
import Derived.WalkLawsBesides
import Derived.Lib.Hide
import Derived.Maps.AppendAt
import Derived.Deep.AppendLies
import Derived.RegionTactic
import Derived.OwnWalk
import Derived.Deep.QuietTactic
import Derived.BigQuiet
import Derived.StillTailTactics
import Derived.Deep.RegionLaw
import Derived.Deep.RegionHeld3
import Derived.Laws.CopyOwn
import Derived.OpenShut
import Derived.Test.YtpcjdmbnlhjlaaaRows
import Derived.RangeFuncNested
import Derived.RangeFuncBound
import Derived.RangeFuncCalls
import Derived.RangeFuncLeaves
import Derived.RangeFuncBox
import Derived.Shelf.Abstract
import Derived.Shelf.RegionOpen
import Derived.OwnWalkIn
import Derived.TacticsInMore
import Derived.LoopNIn
import Derived.LoopIn
import Derived.OrdersIn
import Derived.OrdersHeld
import Derived.StillTail
namespace Go.Proofs.Ytpcjdmbnlhjlaaa
set_option linter.unusedVariables false
open Go.RowKit

theorem ret_int {k : IntKind} {a b : Int} (h : a = b) : Ending.returned (.int k a) = .returned (.int k b) := by rw [h]
theorem ret_bool {a b : Bool} (h : a = b) : Ending.returned (.bool a) = .returned (.bool b) := by rw [h]
theorem val_int {k : IntKind} {a b : Int} (h : a = b) : Value.int k a = .int k b := by rw [h]
theorem val_bool {a b : Bool} (h : a = b) : Value.bool a = .bool b := by rw [h]
theorem val_slice {A : Option Addr} {a b c d : Nat} (h : a = b) (h' : c = d) : Value.slice A a c = .slice A b d := by rw [h, h']

/-- The cells of a slice at A hold the values vs (one cell each): nil or not, of whatever capacity. -/
def Reads (w : World) (A : Option Addr) (vs : List Value) : Prop :=
  vs.length ≠ 0 → ∃ b off, A = some ⟨b, off, none⟩ ∧ b < w.heap.size ∧ ∀ i v, vs[i]? = some v → w.cell? ⟨b, off + i, none⟩ = some v

theorem Reads.keep {w w' : World} {A : Option Addr} {vs : List Value} (h : Reads w A vs) (hb : Below w.heap.size w w') : Reads w' A vs := by
  intro hz
  obtain ⟨b, off, e, hlt, hc⟩ := h hz
  exact ⟨b, off, e, Nat.lt_of_lt_of_le hlt hb.size, fun i v hi => (hb.cell (p := ⟨b, off + i, none⟩) hlt).trans (hc i v hi)⟩
theorem Reads.drewN {w : World} {A : Option Addr} {vs : List Value} (h : Reads w A vs) (n : Nat) : Reads (w.drewN n) A vs := h
theorem Reads.nil {w : World} {A : Option Addr} : Reads w A [] := fun h => absurd rfl h

theorem Reads.take' {w : World} {A : Option Addr} {vs : List Value} (h : Reads w A vs) (n : Nat) : Reads w A (vs.take n) := by
  intro hz
  obtain ⟨b, off, e, hb, hc⟩ := h (by intro e; apply hz; simp [e])
  refine ⟨b, off, e, hb, fun i v hi => hc i v ?_⟩
  have hlt := (List.getElem?_eq_some_iff.1 hi).1
  rw [List.getElem?_take, if_pos (by simp at hlt; omega)] at hi
  exact hi

/-- The values of words, of ints. -/
def uv (l : List Nat) : List Value := l.map fun n : Nat => .int .u64 (n : Int)
def iv (l : List Int) : List Value := l.map fun n => .int .i64 n
def W64 (l : List Nat) : Prop := ∀ x ∈ l, x < 18446744073709551616
def I64 (l : List Int) : Prop := ∀ x ∈ l, -9223372036854775808 ≤ x ∧ x ≤ 9223372036854775807

theorem uv_length (l : List Nat) : (uv l).length = l.length := by simp [uv]
theorem iv_length (l : List Int) : (iv l).length = l.length := by simp [iv]
theorem uv_append (l m : List Nat) : uv (l ++ m) = uv l ++ uv m := by simp [uv]
theorem iv_append (l m : List Int) : iv (l ++ m) = iv l ++ iv m := by simp [iv]
theorem uv_at (l : List Nat) (i : Nat) (h : i < l.length) : (uv l)[i]? = some (.int .u64 ((l[i]?.getD 0 : Nat) : Int)) := by simp [uv, h]
theorem iv_at (l : List Int) (i : Nat) (h : i < l.length) : (iv l)[i]? = some (.int .i64 (l[i]?.getD 0)) := by simp [iv, h]
theorem uv_one (l : List Nat) : ∀ u ∈ uv l, u.oneCell' = true := by
  intro u hu
  obtain ⟨x, _, rfl⟩ := List.mem_map.1 hu
  rfl
theorem iv_one (l : List Int) : ∀ u ∈ iv l, u.oneCell' = true := by
  intro u hu
  obtain ⟨x, _, rfl⟩ := List.mem_map.1 hu
  rfl
theorem uv_inj {l m : List Nat} (h : uv l = uv m) : l = m := by
  unfold uv at h
  refine List.map_inj_right ?_ |>.1 h
  intro x y e
  injection e with _ e
  omega
theorem W64.at {l : List Nat} (h : W64 l) (i : Nat) : l[i]?.getD 0 < 18446744073709551616 := by
  rcases Nat.lt_or_ge i l.length with hi | hi
  · rw [List.getElem?_eq_getElem hi]; exact h _ (List.getElem_mem hi)
  · rw [List.getElem?_eq_none hi]; decide
theorem W64.set {l : List Nat} (h : W64 l) (i x : Nat) (hx : x < 18446744073709551616) : W64 (l.set i x) := by
  intro y hy
  rcases List.mem_or_eq_of_mem_set hy with hm | rfl
  · exact h y hm
  · exact hx
theorem I64.at {l : List Int} (h : I64 l) (i : Nat) : -9223372036854775808 ≤ l[i]?.getD 0 ∧ l[i]?.getD 0 ≤ 9223372036854775807 := by
  rcases Nat.lt_or_ge i l.length with hi | hi
  · rw [List.getElem?_eq_getElem hi]; exact h _ (List.getElem_mem hi)
  · rw [List.getElem?_eq_none hi]; decide

theorem Reads.u {w : World} {A : Option Addr} {l : List Nat} (h : Reads w A (uv l)) (hl : l.length ≠ 0) :
    ∃ b off, A = some ⟨b, off, none⟩ ∧ b < w.heap.size ∧ ∀ i, i < l.length → w.cell? ⟨b, off + i, none⟩ = some (.int .u64 ((l[i]?.getD 0 : Nat) : Int)) := by
  obtain ⟨b, off, e, hb, hc⟩ := h (by rw [uv_length]; exact hl)
  exact ⟨b, off, e, hb, fun i hi => hc i _ (uv_at l i hi)⟩
theorem Reads.i {w : World} {A : Option Addr} {l : List Int} (h : Reads w A (iv l)) (hl : l.length ≠ 0) :
    ∃ b off, A = some ⟨b, off, none⟩ ∧ b < w.heap.size ∧ ∀ i, i < l.length → w.cell? ⟨b, off + i, none⟩ = some (.int .i64 (l[i]?.getD 0)) := by
  obtain ⟨b, off, e, hb, hc⟩ := h (by rw [iv_length]; exact hl)
  exact ⟨b, off, e, hb, fun i hi => hc i _ (iv_at l i hi)⟩

theorem Reads.of_own {w : World} {base : Nat} {e : TypeId} {size n c : Nat} {A : Option Addr} {xs : List Value} (h : w.ownsRow base e size (.slice A n c) n xs) : Reads w A xs := by
  intro hz
  rcases h.2 with ⟨_, h2⟩ | ⟨g, cap, cur, hv, _, hg, _⟩
  · exact absurd (by rw [h.1, h2]; simp) hz
  · have hA : A = some ⟨g, 0, none⟩ := by injection hv
    subst hA
    refine ⟨g, 0, rfl, (Array.getElem?_eq_some_iff.1 hg).1, fun i v hi => ?_⟩
    have := h.cells (g := g) rfl i v hi
    rwa [Addr.add_lit] at this

theorem Reads.new (w : World) (cs : Array Value) (t : TypeId) : Reads (w.alloc (.cells cs t)) (some ⟨w.heap.size, 0, none⟩) cs.toList := by
  intro _
  refine ⟨w.heap.size, 0, rfl, by simp, fun i v hi => ?_⟩
  rw [World.cell?_alloc_at _ _ _ _ rfl, Nat.zero_add]
  simpa using hi
theorem Reads.alloc {w : World} {A : Option Addr} {vs : List Value} (h : Reads w A vs) (o : Obj) : Reads (w.alloc o) A vs := h.keep ((Below.refl _ _).alloc (Nat.le_refl _) _)

/-- A slice value with its capacity's bound, that reads as vs. -/
theorem own_form {w : World} {base : Nat} {e : TypeId} {size n : Nat} {v : Value} {xs : List Value} (h : w.ownsRow base e size v n xs) : ∃ A c, v = .slice A n c := by
  rcases h.2 with ⟨hv, h2⟩ | ⟨g, cap, cur, hv, _⟩
  · exact ⟨none, 0, by rw [hv, h2]⟩
  · exact ⟨_, cap, hv⟩

section
variable {P : Program} (w : World)

theorem run_append_of_nil (base : Nat) (t ty e : TypeId) (i : TypeInfo) (size : Nat) (ht : P.underlying t = some (.slice e)) (hi : P.info? e = some i)
    (v : Value) (n : Nat) (xs : List Value) (hown : w.ownsRow base e size v n xs) (c : Nat) : (Builtin.append_ #[t, t] ty #[v, .slice none 0 c]).run P w = .ok v w := by
  rcases hown.2 with ⟨rfl, rfl⟩ | ⟨g, cap, cur, rfl, _, _, hnc, _⟩
  · simp [Builtin.append_, run_underlying ht, sizeOf, typeInfo, hi, Builtin.lenOf, Builtin.firstCells]
  · simp [Builtin.append_, run_underlying ht, sizeOf, typeInfo, hi, Builtin.lenOf, Builtin.firstCells, hnc, storeCells]

theorem run_append_reads (base : Nat) (t ty e : TypeId) (i : TypeInfo) (z : Value) (size bytes : Nat) (ht : P.underlying t = some (.slice e)) (hi : P.info? e = some i) (hz : i.zero = some z)
    (hsize : i.size = size) (hby : i.bytes = bytes) (hzs : z.cells.size = size) (hsz : 0 < size)
    (v : Value) (n : Nat) (xs : List Value) (hown : w.ownsRow base e size v n xs)
    (A : Option Addr) (m c : Nat) (news : List Value) (hm : news.length = m * size) (hr : Reads w A news) (h1 : ∀ u ∈ news, u.oneCell' = true)
    (h63 : n + m ≤ maxLen) (hbytes : (n + m) * bytes ≤ 140737488355328) (hbase : base ≤ w.heap.size) :
    ∃ v' w', (Builtin.append_ #[t, t] ty #[v, .slice A m c]).run P w = .ok v' w' ∧ w'.ownsRow base e size v' (n + m) (xs ++ news) ∧ w.grownBy w' v.ownBlock ∧
      (v'.ownBlock = v.ownBlock ∨ v'.ownBlock = some w.heap.size) := by
  rcases A with _ | ad
  · have hm0 : m = 0 := by
      rcases Nat.eq_zero_or_pos m with h0 | h0
      · exact h0
      · obtain ⟨b, off, h, _⟩ := hr (by rw [hm]; exact Nat.ne_of_gt (Nat.mul_pos h0 hsz))
        cases h
    subst hm0
    have hn : news = [] := List.eq_nil_of_length_eq_zero (by simpa using hm)
    subst hn
    exact ⟨v, w, run_append_of_nil w base t ty e i size ht hi v n xs hown c, by simpa using hown, World.grownBy.refl w _, .inl rfl⟩
  · have hcells : ∀ j u, news[j]? = some u → w.cell? (ad.add j) = some u := by
      intro j u hu
      obtain ⟨b, off, h, _, hc⟩ := hr (by
        intro h0
        rw [List.eq_nil_of_length_eq_zero h0] at hu
        cases hu)
      injection h with h
      subst h
      rw [Addr.add_lit]
      exact hc j u hu
    obtain ⟨v', w', hrun, h2, h3, _, h5⟩ := run_append_own_at (P := P) w base t ty e i z size bytes ht hi hz hsize hby hzs hsz v n xs hown ad m c news hm hcells h1 h63 hbytes hbase
    exact ⟨v', w', hrun, h2, h3, h5⟩

theorem wp_append_reads {o : Oper} {a : Act} {K : Act → World → Prop} {Q : Exit → Act → World → Prop} (s x : Operand) (t : TypeId)
    (ho : o.op = .call { callee := .builtin .append, args := #[s, x], argTypes := #[t, t] })
    (base : Nat) (e : TypeId) (i : TypeInfo) (z : Value) (size bytes : Nat) (ht : P.underlying t = some (.slice e)) (hi : P.info? e = some i) (hz : i.zero = some z)
    (hsize : i.size = size) (hby : i.bytes = bytes) (hzs : z.cells.size = size) (hsz : 0 < size)
    (v : Value) (n : Nat) (xs : List Value) (hs : a.eval s = v) (hown : w.ownsRow base e size v n xs)
    (A : Option Addr) (m c : Nat) (news : List Value) (hx : a.eval x = .slice A m c) (hm : news.length = m * size) (hr : Reads w A news) (h1 : ∀ u ∈ news, u.oneCell' = true)
    (h63 : n + m ≤ maxLen) (hbytes : (n + m) * bytes ≤ 140737488355328) (hbase : base ≤ w.heap.size)
    (h : ∀ v' w', w'.ownsRow base e size v' (n + m) (xs ++ news) → w.grownBy w' v.ownBlock → (v'.ownBlock = v.ownBlock ∨ v'.ownBlock = some w.heap.size) → K (a.put o.dst v') w') : o.wp P a w K Q := by
  obtain ⟨v', w', hrun, h2, h3, h4⟩ := run_append_reads (P := P) w base t o.type e i z size bytes ht hi hz hsize hby hzs hsz v n xs hown A m c news hm hr h1 h63 hbytes hbase
  unfold Oper.wp execOp
  simp only [ho, resolve, invoke, builtin, Sem.run_bind, Sem.run_pure, Result.andThen_ok, List.map_toArray, List.map_cons, List.map_nil, hs, hx, hrun]
  exact h v' w' h2 h3 h4

theorem wpList_append_reads {ops : Array Oper} {rest : List Oper} {o : Oper} {a : Act} {Q : Exit → Act → World → Prop} (hgd : o.guard = none) (s x : Operand) (t : TypeId)
    (ho : o.op = .call { callee := .builtin .append, args := #[s, x], argTypes := #[t, t] })
    (base : Nat) (e : TypeId) (i : TypeInfo) (z : Value) (size bytes : Nat) (ht : P.underlying t = some (.slice e)) (hi : P.info? e = some i) (hz : i.zero = some z)
    (hsize : i.size = size) (hby : i.bytes = bytes) (hzs : z.cells.size = size) (hsz : 0 < size)
    (v : Value) (n : Nat) (xs : List Value) (hs : a.eval s = v) (hown : w.ownsRow base e size v n xs)
    (A : Option Addr) (m c : Nat) (news : List Value) (hx : a.eval x = .slice A m c) (hm : news.length = m * size) (hr : Reads w A news) (h1 : ∀ u ∈ news, u.oneCell' = true)
    (h63 : n + m ≤ maxLen) (hbytes : (n + m) * bytes ≤ 140737488355328) (hbase : base ≤ w.heap.size)
    (h : ∀ v' w', w'.ownsRow base e size v' (n + m) (xs ++ news) → w.grownBy w' v.ownBlock → (v'.ownBlock = v.ownBlock ∨ v'.ownBlock = some w.heap.size) → wpList P ops Q rest (a.put o.dst v') w') : wpList P ops Q (o :: rest) a w :=
  wpList_plain hgd fun _ hK => wp_append_reads w s x t ho base e i z size bytes ht hi hz hsize hby hzs hsz v n xs hs hown A m c news hx hm hr h1 h63 hbytes hbase fun v' w' h2 h3 h4 => hK _ _ (h v' w' h2 h3 h4)

theorem step_append_reads {ops : Array Oper} {o : Oper} {a : Act} {K : Act → World → Prop} {Q : Exit → Act → World → Prop} {E : Prop} (hgd : o.guard = none) (s x : Operand) (t : TypeId)
    (ho : o.op = .call { callee := .builtin .append, args := #[s, x], argTypes := #[t, t] })
    (base : Nat) (e : TypeId) (i : TypeInfo) (z : Value) (size bytes : Nat) (ht : P.underlying t = some (.slice e)) (hi : P.info? e = some i) (hz : i.zero = some z)
    (hsize : i.size = size) (hby : i.bytes = bytes) (hzs : z.cells.size = size) (hsz : 0 < size)
    (v : Value) (n : Nat) (xs : List Value) (hs : a.eval s = v) (hown : w.ownsRow base e size v n xs)
    (A : Option Addr) (m c : Nat) (news : List Value) (hx : a.eval x = .slice A m c) (hm : news.length = m * size) (hr : Reads w A news) (h1 : ∀ u ∈ news, u.oneCell' = true)
    (h63 : n + m ≤ maxLen) (hbytes : (n + m) * bytes ≤ 140737488355328) (hbase : base ≤ w.heap.size)
    (h : ∀ v' w', w'.ownsRow base e size v' (n + m) (xs ++ news) → w.grownBy w' v.ownBlock → (v'.ownBlock = v.ownBlock ∨ v'.ownBlock = some w.heap.size) → K (a.put o.dst v') w') :
    if Region.wanted o (yielded ops a.tmps) = true then Oper.wp P o a w K Q else E := by
  have hw : Region.wanted o (yielded ops a.tmps) = true := by simp [Region.wanted, hgd]
  rw [if_pos hw]
  exact wp_append_reads w s x t ho base e i z size bytes ht hi hz hsize hby hzs hsz v n xs hs hown A m c news hx hm hr h1 h63 hbytes hbase h
end

/-- What a function that only makes memory of its own leaves: a slice of words in new memory. -/
def OwnU (t : TypeId) (w0 w : World) (v : Value) (l : List Nat) : Prop := w.ownsRow w0.heap.size t 1 v l.length (uv l)

end Go.Proofs.Ytpcjdmbnlhjlaaa

namespace Go.Proofs.Ytpcjdmbnlhjlaaa
set_option linter.unusedVariables false

theorem two_pow_lt (k : Nat) (h : k < 64) : 2 ^ k < 18446744073709551616 := by
  have := Nat.pow_lt_pow_right (a := 2) (by omega) h
  simpa using this
theorem cast_two_pow (k : Nat) : (2 : Int) ^ k = ((2 ^ k : Nat) : Int) := by rw [Int.natCast_pow]; rfl
theorem wrap_nat (a : Nat) : IntKind.u64.wrap (a : Int) = ((a % 18446744073709551616 : Nat) : Int) := by
  rw [IntKind.wrap_u64]; omega
theorem wrap_two_pow (k : Nat) (h : k < 64) : IntKind.u64.wrap ((2 : Int) ^ k) = ((2 ^ k : Nat) : Int) := by
  rw [cast_two_pow, wrap_nat, Nat.mod_eq_of_lt (two_pow_lt k h)]
theorem cast_shr (x k : Nat) : (x : Int) / 2 ^ k = ((x >>> k : Nat) : Int) := by
  rw [cast_two_pow, Nat.shiftRight_eq_div_pow]; rfl
theorem shr_lt (x k : Nat) (h : x < 18446744073709551616) : x >>> k < 18446744073709551616 :=
  Nat.lt_of_le_of_lt (Nat.shiftRight_le x k) h
theorem or_lt {a b : Nat} (ha : a < 18446744073709551616) (hb : b < 18446744073709551616) : a ||| b < 18446744073709551616 :=
  Nat.or_lt_two_pow (n := 64) ha hb
theorem and_lt {a : Nat} (b : Nat) (ha : a < 18446744073709551616) : a &&& b < 18446744073709551616 :=
  Nat.lt_of_le_of_lt Nat.and_le_left ha
theorem xor_lt {a b : Nat} (ha : a < 18446744073709551616) (hb : b < 18446744073709551616) : a ^^^ b < 18446744073709551616 :=
  Nat.xor_lt_two_pow (n := 64) ha hb
theorem bit_and_one (x k : Nat) (h : x < 18446744073709551616) : (bits BinOp.and IntKind.u64 ((x : Int) / 2 ^ k) 1 == 1) = x.testBit k := by
  have h1 : (1 : Int) = ((1 : Nat) : Int) := rfl
  rw [cast_shr, h1, u64_and_nat _ _ (shr_lt x k h) (by omega), Nat.and_one_is_mod, Nat.testBit, Nat.one_and_eq_mod_two]
  rcases Nat.mod_two_eq_zero_or_one (x >>> k) with e | e <;> rw [e] <;> rfl
theorem not_bit (i k : Nat) (hk : k < 64) : (18446744073709551615 - 2 ^ k).testBit i = (decide (i < 64) && decide (i ≠ k)) := by
  have e : 18446744073709551615 - 2 ^ k = 2 ^ 64 - (2 ^ k + 1) := by omega
  rw [e, Nat.testBit_two_pow_sub_succ (two_pow_lt k hk), Nat.testBit_two_pow]
  by_cases h : k = i
  · subst h; simp
  · have h' : i ≠ k := fun e => h e.symm
    simp [h, h']
theorem clear_or (x k : Nat) (hk : k < 64) (hx : x < 18446744073709551616) : (x &&& (18446744073709551615 - 2 ^ k)) ||| 2 ^ k = x ||| 2 ^ k := by
  refine Nat.eq_of_testBit_eq fun i => ?_
  rw [Nat.testBit_or, Nat.testBit_or, Nat.testBit_and, not_bit i k hk, Nat.testBit_two_pow]
  by_cases h : k = i
  · subst h; simp
  · have h' : i ≠ k := fun e => h e.symm
    by_cases h64 : i < 64
    · simp [h, h', h64]
    · have : x.testBit i = false := Nat.testBit_lt_two_pow (Nat.lt_of_lt_of_le hx (Nat.pow_le_pow_right (n := 2) (by omega) (show 64 ≤ i by omega)))
      simp [this]

end Go.Proofs.Ytpcjdmbnlhjlaaa

namespace Go.Proofs.Ytpcjdmbnlhjlaaa
set_option linter.unusedVariables false
open Go.RowKit

theorem u64_info : (Try.prog.info? 32).map (fun i => (i.zero, i.size, i.bytes)) = some (some (.int .u64 0), 1, 8) := by kernel_rfl

theorem int_info : (Try.prog.info? 3).map (fun i => (i.zero, i.size, i.bytes)) = some (some (.int .i64 0), 1, 8) := by kernel_rfl

/-- slices.Clone of words: a copy in new memory; nil stays nil. -/
theorem clone_any (A : Option Addr) (c : Nat) (l : List Nat) (w : World) (hA : Reads w A (uv l)) (hl : l.length ≤ 1000000) :
    Calls Try.prog 38 #[.slice A l.length c] w fun e w' => ∃ v, e = .returned v ∧ w'.ownsRow w.heap.size 32 1 v l.length (uv l) ∧ Below w.heap.size w w' := by
  obtain ⟨i0, hi0, hz0, hz1, hz2⟩ := info_parts u64_info
  have hn := fun W => Lib.run_eql_slice_nil (P := Try.prog) W 30 32 A l.length c 0 0 Try.underlying30
  rcases A with _ | a
  · have h0 : l = [] := by
      rcases Nat.eq_zero_or_pos l.length with h | h
      · exact List.eq_nil_of_length_eq_zero h
      · obtain ⟨b, off, h, _⟩ := hA.u (by omega)
        cases h
    subst h0
    simp only [List.length_nil, Option.isNone_none] at hn ⊢
    go_enter Try.func38, Try.ntmps38
    go_wp2
    go_ret
    exact ⟨_, rfl, World.ownsRow_nil _ _ _ _, Below.refl _ _⟩
  · go_enter Try.func38, Try.ntmps38
    go_wp2_with (at_builtin; refine wpList_append_reads _ rfl _ _ _ rfl w.heap.size 32 i0 _ 1 8 Try.underlying30 hi0 hz0 hz1 hz2 rfl (by omega) (.slice (some ⟨w.heap.size, 0, none⟩) 0 0) 0 [] rfl (World.ownsRow_lit w #[] 0 (Nat.le_refl _) (by simp only [maxLen]; omega) rfl) (some a) l.length c (uv l) rfl (by rw [uv_length]; omega) (hA.keep ((Below.refl _ _).alloc (Nat.le_refl _) _)) (uv_one l) (by simp only [maxLen]; omega) (by omega) (by simp) ?_; intro v1 w1 hown1 hg1 hat1)
    go_ret
    refine ⟨v1, rfl, by simpa using hown1, ((Below.refl _ w).alloc (Nat.le_refl _) _).grown hg1 (by simp) ?_⟩
    intro k hk
    simp [Value.ownBlock] at hk
    omega

theorem uv_set (l : List Nat) (i x : Nat) : (uv l).set i (.int .u64 (x : Int)) = uv (l.set i x) := by simp [uv, List.map_set]

theorem take_eq_snoc {xs ys : List Nat} {k : Nat} (hx : k < xs.length) (hl : xs.length = ys.length) (h : xs.take k = ys.take k) (e : xs[k]?.getD 0 = ys[k]?.getD 0) : xs.take (k + 1) = ys.take (k + 1) := by
  have hy : k < ys.length := by omega
  rw [List.take_succ_eq_append_getElem hx, List.take_succ_eq_append_getElem hy, h]
  simp [hx, hy] at e
  rw [e]

set_option maxHeartbeats 400000 in
theorem same_any (A B : Option Addr) (c d : Nat) (xs ys : List Nat) (w : World) (ha : Reads w A (uv xs)) (hb : Reads w B (uv ys)) (hx : xs.length ≤ 1000000) (hy : ys.length ≤ 1000000) :
    Calls Try.prog 24 #[.slice A xs.length c, .slice B ys.length d] w fun e w' => e = .returned (.bool (decide (xs = ys))) ∧ ∃ n, w' = w.drewN n := by
  by_cases hl : xs.length = ys.length
  · have H1 : ((xs.length : Int) != (ys.length : Int)) = false := by simp; omega
    have HL := Lib.hid hl
    obtain ⟨n, hn⟩ : ∃ n, xs.length = n := ⟨_, rfl⟩
    rw [← hl, hn] at H1 ⊢
    rw [hn] at hx
    have HN := Lib.hid hn
    clear hl hn hy
    have hcx : ∀ i, i < n → ∃ b off, A = some ⟨b, off, none⟩ ∧ w.cell? ⟨b, off + i, none⟩ = some (.int .u64 ((xs[i]?.getD 0 : Nat) : Int)) := by
      intro i hi
      obtain ⟨b, off, e, _, hc⟩ := ha.u (by rw [HN.out]; omega)
      exact ⟨b, off, e, hc i (by rw [HN.out]; exact hi)⟩
    have hcy : ∀ i, i < n → ∃ b off, B = some ⟨b, off, none⟩ ∧ w.cell? ⟨b, off + i, none⟩ = some (.int .u64 ((ys[i]?.getD 0 : Nat) : Int)) := by
      intro i hi
      obtain ⟨b, off, e, _, hc⟩ := hb.u (by rw [← HL.out, HN.out]; omega)
      exact ⟨b, off, e, hc i (by rw [← HL.out, HN.out]; exact hi)⟩
    have HX := Lib.hid hcx
    have HY := Lib.hid hcy
    clear hcx hcy ha hb
    go_enter Try.func24, Try.ntmps24
    go_wp2
    go_loopw [5] (fun i wr => ∃ k m : Nat, k ≤ n ∧ i = .int .i64 k ∧ wr = w.drewN m ∧ Hid (xs.take k = ys.take k)) (fun i _ => n - (intOf i).toNat)
    case atStart => exact ⟨0, 0, Nat.zero_le _, rfl, rfl, by show _ = _; simp⟩
    case round =>
      obtain ⟨k, m, hk, rfl, rfl, hs⟩ := hrel
      by_cases hlt : k < n
      · obtain ⟨b, off, rfl, hc1⟩ := HX.out k hlt
        obtain ⟨b2, off2, rfl, hc2⟩ := HY.out k hlt
        obtain ⟨x, ex⟩ : ∃ x, xs[k]?.getD 0 = x := ⟨_, rfl⟩
        obtain ⟨y, ey⟩ : ∃ y, ys[k]?.getD 0 = y := ⟨_, rfl⟩
        rw [ex] at hc1
        rw [ey] at hc2
        have EX := Lib.hid ex
        have EY := Lib.hid ey
        clear ex ey
        by_cases hxy : x = y
        · have hq : ((x : Int) != (y : Int)) = false := by simp; omega
          go_wp2
          go_quiet (fail)
          go_wp2
          go_roundw
          case rel => exact ⟨k + 1, _, by omega, by go_num, rfl, take_eq_snoc (by rw [HN.out]; omega) HL.out hs.out (by rw [EX.out, EY.out, hxy])⟩
          case measure => simp [intOf]; omega
        · have hq : ((x : Int) != (y : Int)) = true := by simp; omega
          go_wp2
          go_quiet (fail)
          go_wp2
          go_ret
          refine ⟨?_, m + nq, by rw [World.drewN_drewN]⟩
          have : decide (xs = ys) = false := by
            simp only [decide_eq_false_iff_not]
            intro h
            exact hxy (by rw [← EX.out, ← EY.out, h])
          rw [this]
          rfl
      · go_wp2
        go_ret
        refine ⟨?_, _, rfl⟩
        have : decide (xs = ys) = true := by
          have h := hs.out
          rw [List.take_of_length_le (by rw [HN.out]; omega), List.take_of_length_le (by rw [← HL.out, HN.out]; omega)] at h
          simpa using h
        rw [this]
        rfl
  · have h1 : ((xs.length : Int) != (ys.length : Int)) = true := by simp; omega
    have h2 : Hid (decide (xs = ys) = false) := by show decide (xs = ys) = false; simp; intro h; exact hl (by rw [h])
    go_enter Try.func24, Try.ntmps24
    go_wp2
    go_ret
    exact ⟨by rw [h2.out]; rfl, 0, rfl⟩

theorem addr_plain {w : World} {x : Addr} {v : Value} (h : w.cell? x = some v) : ∃ b off, x = ⟨b, off, none⟩ := by
  obtain ⟨b, off, spot⟩ := x
  cases spot with
  | none => exact ⟨b, off, rfl⟩
  | some s =>
    unfold World.cell? at h
    split at h <;> simp at h

theorem wf_u64 {n : Int} (h : (Lit.int .u64 n).wf = true) : 0 ≤ n ∧ n < 18446744073709551616 := by
  have := bounds_u64 h
  omega

theorem isRow_u {w : World} {a : Option Addr} {len cap : Nat} {zs : List Int}
    (h : (a = none ∧ len = 0 ∧ cap = 0 ∧ zs = []) ∨
      ∃ x, a = some x ∧ len ≤ cap ∧ cap ≤ maxLen ∧ zs.length = cap ∧ (∀ i, i < zs.length → w.cell? (x.add i) = some (.int .u64 (zs.getD i 0))) ∧ ∀ n ∈ zs, (Lit.int .u64 n).wf = true) :
    ∃ l : List Nat, l.length = len ∧ Reads w a (uv l) ∧ W64 l := by
  rcases h with ⟨rfl, rfl, _, _⟩ | ⟨x, rfl, hl, _, hz, hc, hw⟩
  · exact ⟨[], rfl, Reads.nil, by intro x hx; cases hx⟩
  · refine ⟨(zs.take len).map Int.toNat, by simp; omega, ?_, ?_⟩
    · intro hne
      have h0 := hc 0 (by rw [uv_length] at hne; simp at hne; omega)
      obtain ⟨b, off, rfl⟩ := addr_plain (show w.cell? (x.add 0) = _ from h0)
      refine ⟨b, off, rfl, World.block_lt_of_cell? _ _ h0, fun i v hi => ?_⟩
      have hil : i < (uv ((zs.take len).map Int.toNat)).length := (List.getElem?_eq_some_iff.1 hi).1
      rw [uv_length] at hil
      rw [uv_at _ _ hil] at hi
      have hil' : i < len ∧ i < zs.length := by simp at hil; omega
      have h1 := hc i hil'.2
      rw [Addr.add_lit] at h1
      rw [h1, ← hi]
      congr 2
      have hz : zs.getD i 0 = zs[i] := by simp [hil'.2]
      have := wf_u64 (hw _ (List.getElem_mem hil'.2))
      rw [hz]
      simp [hil'.1, hil'.2]
      omega
    · intro y hy
      simp only [List.mem_map] at hy
      obtain ⟨z, hz, rfl⟩ := hy
      have := wf_u64 (hw z (List.mem_of_mem_take hz))
      omega

theorem isRow_i {w : World} {a : Option Addr} {len cap : Nat} {zs : List Int}
    (h : (a = none ∧ len = 0 ∧ cap = 0 ∧ zs = []) ∨
      ∃ x, a = some x ∧ len ≤ cap ∧ cap ≤ maxLen ∧ zs.length = cap ∧ (∀ i, i < zs.length → w.cell? (x.add i) = some (.int .i64 (zs.getD i 0))) ∧ ∀ n ∈ zs, (Lit.int .i64 n).wf = true) :
    ∃ l : List Int, l.length = len ∧ Reads w a (iv l) ∧ I64 l := by
  rcases h with ⟨rfl, rfl, _, _⟩ | ⟨x, rfl, hl, _, hz, hc, hw⟩
  · exact ⟨[], rfl, Reads.nil, by intro x hx; cases hx⟩
  · refine ⟨zs.take len, by simp; omega, ?_, ?_⟩
    · intro hne
      have h0 := hc 0 (by rw [iv_length] at hne; simp at hne; omega)
      obtain ⟨b, off, rfl⟩ := addr_plain (show w.cell? (x.add 0) = _ from h0)
      refine ⟨b, off, rfl, World.block_lt_of_cell? _ _ h0, fun i v hi => ?_⟩
      have hil : i < (iv (zs.take len)).length := (List.getElem?_eq_some_iff.1 hi).1
      rw [iv_length] at hil
      rw [iv_at _ _ hil] at hi
      have hil' : i < len ∧ i < zs.length := by simp at hil; omega
      have h1 := hc i hil'.2
      rw [Addr.add_lit] at h1
      rw [h1, ← hi]
      congr 2
      simp [hil'.1]
    · intro y hy
      have := bounds_i64 (hw y (List.mem_of_mem_take hy))
      omega

theorem same_any' (A B : Option Addr) (c d N M : Nat) (xs ys : List Nat) (w : World) (hN : xs.length = N) (hM : ys.length = M) (ha : Reads w A (uv xs)) (hb : Reads w B (uv ys)) (hx : N ≤ 1000000) (hy : M ≤ 1000000) :
    Calls Try.prog 24 #[.slice A N c, .slice B M d] w fun e w' => e = .returned (.bool (decide (xs = ys))) ∧ ∃ n, w' = w.drewN n := by
  subst hN
  subst hM
  exact same_any A B c d xs ys w ha hb hx hy

theorem ext_at {l m : List Nat} (hl : l.length = m.length) (h : ∀ k, k < l.length → l[k]?.getD 0 = m[k]?.getD 0) : l = m := by
  apply List.ext_getElem hl
  intro i h1 h2
  have := h i h1
  simpa [h1, h2] using this

theorem emod_nat (a : Int) (n : Nat) (_h0 : 0 ≤ a) (hn : 1 ≤ n) : ∃ i : Nat, a % (64 * (n : Int)) = (i : Int) ∧ i < 64 * n := by
  refine ⟨(a % (64 * (n : Int))).toNat, ?_, ?_⟩
  · have := Int.emod_nonneg a (b := 64 * (n : Int)) (by omega)
    omega
  · have := Int.emod_lt_of_pos a (b := 64 * (n : Int)) (by omega)
    omega

/-- The ones below bit n, as the code makes them. -/
theorem ones_wrap (n : Nat) (h : n < 64) : IntKind.u64.wrap (IntKind.u64.wrap (2 ^ n) - 1) = ((2 ^ n - 1 : Nat) : Int) := by
  have h2 : 2 ^ n < 2 ^ 64 := Nat.pow_lt_pow_right (by omega) h
  have h0 : 0 < 2 ^ n := Nat.pow_pos (by omega)
  rw [cast_two_pow, wrap_nat, Nat.mod_eq_of_lt h2]
  have e : ((2 ^ n : Nat) : Int) - 1 = ((2 ^ n - 1 : Nat) : Int) := by omega
  rw [e, wrap_nat, Nat.mod_eq_of_lt (by omega)]

theorem own_base {w : World} {base : Nat} {e : TypeId} {size n : Nat} {v : Value} {xs : List Value} (h : w.ownsRow base e size v n xs) : ∀ j, v.ownBlock = some j → base ≤ j := by
  intro j ej
  rcases h.2 with ⟨rfl, _⟩ | ⟨g, cap, cur, rfl, hb, _, _⟩
  · simp [Value.ownBlock] at ej
  · obtain rfl : g = j := by simpa [Value.ownBlock] using ej
    exact hb

theorem own_keep {W W' : World} {base g : Nat} {e : TypeId} {size n : Nat} {v : Value} {xs : List Value} (h : W.ownsRow base e size v n xs) (hg : W.grownBy W' (some g)) (hl : g < base) : W'.ownsRow base e size v n xs :=
  h.kept hg (.inr (fun e => by have := own_base h _ e; omega))

theorem rows_ne {W : World} {base base' : Nat} {e e' : TypeId} {n n' : Nat} {v v' : Value} {xs xs' : List Value} (h : W.ownsRow base e 1 v n xs) (h' : W.ownsRow base' e' 1 v' n' xs') (hne : e ≠ e') : v.ownBlock = none ∨ v.ownBlock ≠ v'.ownBlock := by
  rcases h.2 with ⟨rfl, _⟩ | ⟨g, cap, cur, rfl, _, hb, _⟩
  · exact .inl rfl
  · refine .inr fun ee => ?_
    rcases h'.2 with ⟨rfl, _⟩ | ⟨g', cap', cur', rfl, _, hb', _⟩
    · simp [Value.ownBlock] at ee
    · obtain rfl : g = g' := by simpa [Value.ownBlock] using ee
      rw [hb] at hb'
      simp at hb'
      exact hne hb'.2

theorem app_below {W w' : World} {base : Nat} {e : TypeId} {size n : Nat} {v : Value} {xs : List Value} {o : Obj} (h : W.ownsRow base e size v n xs) (hg : (W.alloc o).grownBy w' v.ownBlock) (hle : base ≤ W.heap.size) : Below base W w' :=
  ((Below.refl base W).alloc hle o).grown hg (by simp; omega) (own_base h)

theorem app_below' {W w' : World} {base : Nat} {e : TypeId} {size n : Nat} {v : Value} {xs : List Value} {o : Obj} (h : W.ownsRow base e size v n xs) (hg : (W.drew.alloc o).grownBy w' v.ownBlock) (hle : base ≤ W.heap.size) : Below base W w' :=
  ((Below.refl base W).drew).trans (app_below (W := W.drew) h hg hle)

theorem any_u64 (x : Int) : ∃ y : Nat, IntKind.u64.wrap x = (y : Int) ∧ y < 18446744073709551616 := by
  have h : IntKind.u64.wrap x = x % 18446744073709551616 := by simp [IntKind.wrap, IntKind.signed, IntKind.bits]
  refine ⟨(x % 18446744073709551616).toNat, ?_, ?_⟩ <;> omega

theorem val_u64 (a b c : Int) : ∃ y : Nat, bits BinOp.or IntKind.u64 (bits BinOp.and IntKind.u64 (IntKind.u64.wrap a) (IntKind.u64.wrap b)) (IntKind.u64.wrap c) = (y : Int) ∧ y < 18446744073709551616 := by
  obtain ⟨a', ea, ha⟩ := any_u64 a
  obtain ⟨b', eb, hb⟩ := any_u64 b
  obtain ⟨c', ec, hc⟩ := any_u64 c
  have h := Nat.lt_of_le_of_lt (Nat.and_le_left (n := a') (m := b')) ha
  exact ⟨_, by rw [ea, eb, ec, u64_and_nat _ _ ha hb, u64_or_nat _ _ h hc], or_lt h hc⟩

theorem grown_below {W W' : World} {row : Option Nat} {n₀ : Nat} {A : World} (hB : Below n₀ A W) (hg : W.grownBy W' row) (hn : n₀ ≤ W.heap.size) (hr : ∀ r, row = some r → n₀ ≤ r) : Below n₀ A W' := hB.grown hg hn hr

end Go.Proofs.Ytpcjdmbnlhjlaaa

namespace Go.Proofs.Ytpcjdmbnlhjlaaa
set_option linter.unusedVariables false

/-- Widths that divide a word, s bits of which are taken. -/
def okW : Int → List Int → Bool
  | _, [] => true
  | s, w :: r => decide (1 ≤ w ∧ w ≤ 64 ∧ s + w ≤ 64) && okW (s + w) r

theorem okW_at (s : Int) (ws : List Int) (k : Nat) (h : okW s ws = true) (hk : k < ws.length) :
    1 ≤ ws[k]?.getD 0 ∧ ws[k]?.getD 0 ≤ 64 ∧ s + (ws.take k).sum + ws[k]?.getD 0 ≤ 64 := by
  induction ws generalizing s k with
  | nil => simp at hk
  | cons w r ih =>
    simp only [okW, Bool.and_eq_true, decide_eq_true_eq] at h
    cases k with
    | zero => simp; omega
    | succ k =>
      have := ih (s + w) k h.2 (by simpa using hk)
      simp at this ⊢
      omega

theorem okW_drop (s : Int) (ws : List Int) (k : Nat) (hk : k < ws.length) (x : Int) (hx : ws[k]?.getD 0 = x) : okW s (ws.drop k) = (decide (1 ≤ x ∧ x ≤ 64 ∧ s + x ≤ 64) && okW (s + x) (ws.drop (k + 1))) := by
  rw [List.drop_eq_getElem_cons hk, okW]
  have : ws[k] = x := by rw [← hx, List.getElem?_eq_getElem hk]; rfl
  rw [this]

theorem sum_take_succ (ws : List Int) (k : Nat) (hk : k < ws.length) : (ws.take (k + 1)).sum = (ws.take k).sum + ws[k]?.getD 0 := by
  rw [List.take_succ_eq_append_getElem hk, List.sum_append, List.getElem?_eq_getElem hk]
  simp

/-- The lowest bit and the mask of each field. -/
def fldAt (ws : List Int) (k : Nat) : Nat := ((ws.take k).sum).toNat
def maskOf (x : Int) : Nat := 2 ^ x.toNat - 1

theorem sum_nonneg (s : Int) (ws : List Int) (h : okW s ws = true) (k : Nat) : 0 ≤ (ws.take k).sum := by
  induction k with
  | zero => simp
  | succ k ih =>
    rcases Nat.lt_or_ge k ws.length with hk | hk
    · rw [sum_take_succ ws k hk]
      have := okW_at s ws k h hk
      omega
    · rw [List.take_of_length_le (by omega)]
      rwa [List.take_of_length_le hk] at ih

end Go.Proofs.Ytpcjdmbnlhjlaaa

namespace Go.Proofs.Ytpcjdmbnlhjlaaa
set_option linter.unusedVariables false
open Go.RowKit

/-- What has come when k rounds are over. -/
def upto {α : Type} (f : Nat → α) (k : Nat) : List α := (List.range k).map f
theorem upto_succ {α : Type} (f : Nat → α) (k : Nat) : upto f (k + 1) = upto f k ++ [f k] := by simp [upto, List.range_succ]
theorem upto_length {α : Type} (f : Nat → α) (k : Nat) : (upto f k).length = k := by simp [upto]

/-- What a round must keep for an iterator whose box is block Bs: that block, and all below n₀. -/
structure KeepB (n₀ Bs : Nat) (W W' : World) : Prop where
  below : Below n₀ W W'
  box : W'.heap[Bs]? = W.heap[Bs]?
theorem KeepB.refl (n₀ Bs : Nat) (W : World) : KeepB n₀ Bs W W := ⟨Below.refl _ _, rfl⟩
theorem KeepB.trans {n₀ Bs : Nat} {A B C : World} (h : KeepB n₀ Bs A B) (k : KeepB n₀ Bs B C) : KeepB n₀ Bs A C := ⟨h.below.trans k.below, k.box.trans h.box⟩
theorem KeepB.cell {n₀ Bs : Nat} {A B : World} (h : KeepB n₀ Bs A B) (i : Nat) : B.cell? ⟨Bs, i, none⟩ = A.cell? ⟨Bs, i, none⟩ := World.cell?_of_block h.box
theorem KeepB.putObj {n₀ Bs : Nat} {W0 : World} (hn : n₀ ≤ W0.heap.size) (hB : Bs < W0.heap.size) : ∀ (W : World) (l : Nat) (o o' : Obj), W0.heap.size ≤ l → W.heap[l]? = some o → o.isCells = false → o.isWalk = false → KeepB n₀ Bs W (W.putObj l o') :=
  fun W l o o' hl h1 h2 h3 => ⟨belowK_b (w := W0) hn W l o o' hl h1 h2 h3, World.putObj_heap_other (by omega)⟩
theorem KeepB.setCell {n₀ Bs : Nat} {A W : World} (h : KeepB n₀ Bs A W) {b i : Nat} (hn : n₀ ≤ b) (hB : b ≠ Bs) (u : Value) : KeepB n₀ Bs A (W.setCell ⟨b, i, none⟩ u) :=
  ⟨h.below.setCell (p := ⟨b, i, none⟩) hn u, (Below.heap_setCell _ _ _ _ (fun e => hB e.symm)).trans h.box⟩
theorem KeepB.drew {n₀ Bs : Nat} {A W : World} (h : KeepB n₀ Bs A W) : KeepB n₀ Bs A W.drew := ⟨h.below.drew, h.box⟩
theorem KeepB.of_below {n₀ Bs B : Nat} {A W : World} (h : Below B A W) (h1 : n₀ ≤ B) (h2 : Bs < B) : KeepB n₀ Bs A W := ⟨h.mono h1, h.block Bs h2⟩

end Go.Proofs.Ytpcjdmbnlhjlaaa

namespace Go.Proofs.Ytpcjdmbnlhjlaaa
set_option linter.unusedVariables false
open Go

def noDefer (ops : Array Oper) : Bool := ops.all fun o => match o.op with | .defer _ => false | _ => true

theorem noDefer_at {ops : Array Oper} (h : noDefer ops = true) {i : Nat} {o : Oper} (ho : ops[i]? = some o) : ∀ c, o.op ≠ .defer c := by
  intro c hc
  obtain ⟨hlt, hx⟩ := Array.getElem?_eq_some_iff.1 ho
  have := (Array.all_eq_true.1 h) i hlt
  rw [hx, hc] at this
  cases this

theorem rows_wide {l n : Nat} {P : Program} {row : String} {args : Array Value} {w : World} {R : Value → World → Prop} (h : Rows P row args w R) : RowsIn (Fence.wide.inRound l) n P row args w R := by
  intro c cs _
  obtain ⟨v, w', r, s⟩ := h c cs
  exact ⟨v, w', r, stepsIn_wide.2 s⟩

theorem oper_inRound {P : Program} {l n : Nat} {o : Oper} {a : Act} {w : World} {K : Act → World → Prop} {Q : Exit → Act → World → Prop} (hd : ∀ c, o.op ≠ .defer c) (h : o.wp P a w K Q) :
    o.wpIn (Fence.wide.inRound l) n P a w K Q := by
  refine ⟨fun _ _ => trivial, ?_⟩
  have e : (o.semAt (Fence.wide.inRound l).round a.eval) = execOp a.eval o := Oper.semAt_some l _ o hd
  rw [e]
  unfold Oper.wp at h
  generalize (execOp a.eval o).run P w = r at h ⊢
  cases r with
  | ok x w' =>
    cases x with
    | enter f args => exact ⟨(fun hh => by cases hh), CallsIn.inRound l (callsIn_wide.2 h)⟩
    | row row args => exact ⟨(fun hh => by cases hh), rows_wide h⟩
    | round l1 f tmps assign body => exact h.elim
    | _ => exact h
  | halt x w' => cases x <;> exact h

theorem wpAny_inRound {P : Program} {l n : Nat} {md : Region.Mode} {ops : Array Oper} {Q : Exit → Act → World → Prop} (hd : noDefer ops = true) (hQ : ¬ LetsOut Q) :
    ∀ (fuel : Nat) (listed : Array Bool) (a : Act) (w : World), wpAny P md ops Q fuel listed a w → wpAnyIn (Fence.wide.inRound l) n P md ops Q fuel listed a w
  | 0, _, _, _, h => h
  | fuel + 1, listed, a, w, h => by
    refine ⟨h.1, fun i hi => ?_⟩
    have h1 := h.2 i hi
    unfold wpOp at h1
    unfold wpOpIn
    cases ho : ops[i]? with
    | none => rw [ho] at h1; exact wpAny_inRound hd hQ fuel _ a w h1
    | some o =>
      rw [ho] at h1
      simp only at h1 ⊢
      split
      · rename_i hw
        rw [if_pos hw] at h1
        exact oper_inRound (noDefer_at hd ho) (Oper.wp_mono (fun a w => wpAny_inRound hd hQ fuel _ a w) (h1.resolve_right (fun hh => hQ hh.2)))
      · rename_i hw
        rw [if_neg hw] at h1
        exact ⟨fun _ _ => trivial, wpAny_inRound hd hQ fuel _ _ w h1⟩

theorem wpAny_still_tail {P : Program} {Q : Exit → Act → World → Prop} {a : Act} {w : World} {l : List Oper} (n : Nat) (hB : Region.lexTailB .any l.toArray n = true)
    (h : wpStill P l.toArray w (fun a' => wpList P l.toArray Q (l.drop n) a' w) (l.take n) a) : wpAny P .any l.toArray Q l.toArray.size (Array.replicate l.toArray.size false) a w := by
  simp only [Region.lexTailB, Bool.and_eq_true, decide_eq_true_eq] at hB
  obtain ⟨⟨⟨⟨hsel, hn⟩, hs⟩, hc⟩, hlex⟩ := hB
  have hn' : n < l.length := by simpa using hn
  have htl : (l.take n).length = n := by simp; omega
  have hdl : (l.drop n).length = l.toArray.size - n := by simp
  have inv0 : HeadInv .any l.toArray n (Array.replicate l.toArray.size false) :=
    ⟨by simp, fun j oj _ hl => (by rw [getD_replicate_false] at hl; cases hl), fun t _ ht => getD_in (by simpa using ht) (getD_replicate_false _ _)⟩
  have H := wpAnyL_lex (md := .any) (g := l.toArray.size - n) hsel hs hc hn (l.take n) 0 _ a (fun j hj => by
    have hj' : j < n := by rw [htl] at hj; exact hj
    simp [hj']) (by simpa using htl) inv0 (by rw [htl]; exact hlex) h
  have := wpAny_of_head (Q' := Q) (g := l.toArray.size - n) (fun listed a' hL => by
    have := wpAny_of_seq (md := .any) (Q' := Q) (l.drop n) n listed a' w (fun j => by simp [List.getElem?_drop]) (by rw [hdl]; exact hL.1) hL.2
    rwa [hdl] at this) _ _ _ H
  rw [htl, show n + (l.toArray.size - n) = l.toArray.size by omega] at this
  exact this

/-- The head only reads, the tail is forced: in a round. -/
theorem wpIn_region_still_tail {P : Program} {l0 m id : Nat} {Q : Exit → Act → World → Prop} {a : Act} {w : World} {l : List Oper} (n : Nat) (hm : P.follows .mixedOrders = true) (hd : noDefer l.toArray = true) (hQ : ¬ LetsOut Q) (hB : Region.lexTailB .any l.toArray n = true)
    (h : wpStill P l.toArray w.drew (fun a' => wpList P l.toArray Q (l.drop n) a' w.drew) (l.take n) a) : (Code.region id l.toArray true).wpIn (Fence.wide.inRound l0) m P Q a w :=
  wpIn_region_any hm (wpAny_inRound hd hQ _ _ _ _ (wpAny_still_tail n hB h))

/-- All operations only read: in a round. -/
theorem wpIn_region_quiet_round {P : Program} {l0 m id : Nat} {Q : Exit → Act → World → Prop} {a : Act} {w : World} {l : List Oper} (hm : P.follows .mixedOrders = true) (hd : noDefer l.toArray = true) (hQ : ¬ LetsOut Q) (hB : Region.lexB .any l.toArray = true)
    (h : wpQuiet P l.toArray (fun w' => ∃ n, w' = w.drewN n) (fun a' => ∀ w', (∃ n, w' = w.drewN n) → Q .normal a' w') l a) : (Code.region id l.toArray true).wpIn (Fence.wide.inRound l0) m P Q a w := by
  simp only [Region.lexB, Bool.and_eq_true] at hB
  refine wpIn_region_any hm (wpAny_inRound hd hQ _ _ _ _ (wpAny_of_quiet (C := fun w' => ∃ n, w' = w.drewN n) (Q := fun a' => ∀ w', (∃ n, w' = w.drewN n) → Q .normal a' w') (fun _ w' hw' h => h w' hw') _ _ _ _ ⟨1, rfl⟩ ?_))
  have := wpAnyQ_lex (C := fun w' => ∃ n, w' = w.drewN n) (md := .any) hB.1 l.toArray.toList 0 (Array.replicate l.toArray.size false) a (by simp) (by simpa using hB.2) (by simpa using h)
  simpa using this

end Go.Proofs.Ytpcjdmbnlhjlaaa

namespace Go.Proofs.Ytpcjdmbnlhjlaaa
set_option linter.unusedVariables false
open Go

section
variable {P : Program} {md : Region.Mode} {ops : Array Oper} {Q : Exit → Act → World → Prop} {S : World → Prop} {n : Nat}

def wpAnyT (P : Program) (md : Region.Mode) (ops : Array Oper) (Q : Exit → Act → World → Prop) (S : World → Prop) (n : Nat) : Nat → Array Bool → Act → World → Prop
  | 0, listed, a, w => Region.ready md ops listed = [] ∧ Q .normal a w
  | f + 1, listed, a, w => (Region.ready md ops listed = [] → Q .normal a w) ∧
    ∀ i ∈ Region.ready md ops listed, wpOp P ops Q i (fun a' w' => (i < n → S w') ∧ wpAnyT P md ops Q S n f (listed.setIfInBounds i true) a' w') a w

theorem wpAny_of_T : ∀ (f : Nat) (listed : Array Bool) (a : Act) (w : World), wpAnyT P md ops Q S n f listed a w → wpAny P md ops Q f listed a w
  | 0, _, _, _, h => h
  | f + 1, _, _, _, h => ⟨h.1, fun i hi => wpOp_mono (fun a' w' h' => wpAny_of_T f _ a' w' h'.2) (h.2 i hi)⟩

theorem wpAnyT_first {i : Nat} {oi : Oper} {v : Value} (hi : ops[i]? = some oi) (hsel : ∀ (j : Nat) (o : Oper) cs b, ops[j]? = some o → o.op ≠ .select cs b)
    (hs : Region.sinkB md ops n = true) (hc : Region.chainB md ops n = true) (hn : n < ops.size) (hin : i < n)
    (hQ : ∀ c a w, Q (.panic c) (a.put oi.dst v) w → Q (.panic c) a w) :
    ∀ (f : Nat) (listed : Array Bool) (a : Act) (w : World), HeadInv md ops n listed →
      (∀ j oj, ops[j]? = some oj → j ≠ i → listed.getD j true = false → (∀ e ∈ oj.after, Region.binds md e = true → e.on ≠ i) → oi.apart ops oj = true) →
      i ∈ Region.ready md ops listed → YieldsIf P ops S oi v a → S w →
      wpAnyT P md ops Q S n f (listed.setIfInBounds i true) (a.put oi.dst v) w → wpAnyT P md ops Q S n (f + 1) listed a w := by
  intro f
  induction f with
  | zero =>
    intro listed a w inv _ hr hy hS H
    refine ⟨fun h => (by rw [h] at hr; cases hr), fun j hj => ?_⟩
    by_cases hji : j = i
    · subst hji; exact hy.wpOp hi hS ⟨fun _ => hS, H⟩
    · have := ready_mono hj hji
      rw [H.1] at this
      cases this
  | succ f ih =>
    intro listed a w inv hfree hr hy hS H
    have hun := (mem_ready.1 hr).1
    refine ⟨fun h => (by rw [h] at hr; cases hr), fun j hj => ?_⟩
    have hjn : j < n := by
      rcases Nat.lt_or_ge j n with h | h
      · exact h
      · exact absurd hj (tail_waits hs hc hn inv _ i rfl hin hun j h)
    by_cases hji : j = i
    · subst hji; exact hy.wpOp hi hS ⟨fun _ => hS, H⟩
    · have h1 := H.2 j (ready_mono hj hji)
      obtain ⟨hjun, oj, hoj, hall⟩ := mem_ready.1 hj
      have hnot : ∀ e ∈ oj.after, Region.binds md e = true → e.on ≠ i := fun e he hb heq => by
        have h1 := hall e he hb
        rw [heq, getD_both hun] at h1
        cases h1
      have h2 := wpOp_putIf hoj (hfree j oj hoj hji hjun hnot) (fun cs b => hsel i oi cs b hi) (fun cs b => hsel j oj cs b hoj) hQ hy h1
      have hfree' : ∀ k ok, ops[k]? = some ok → k ≠ i → (listed.setIfInBounds j true).getD k true = false →
          (∀ e ∈ ok.after, Region.binds md e = true → e.on ≠ i) → oi.apart ops ok = true := fun k ok hk hki hun hno => by
        refine hfree k ok hk hki ?_ hno
        by_cases hjk : j = k
        · subst hjk; exact hjun
        · rw [getD_set_ne true hjk] at hun; exact hun
      refine wpOp_mono (fun a' w' h3 => ⟨h3.2.1, ih (listed.setIfInBounds j true) a' w' (inv.set hj hjn) hfree' (ready_mono hr (Ne.symm hji)) h3.1 (h3.2.1 hjn) ?_⟩) h2
      rw [Array.setIfInBounds_comm _ _ hji]
      exact h3.2.2

/-- The head, in the text's order: each operation yields its value in every world that meets S. -/
def wpHeadS (P : Program) (ops : Array Oper) (Q : Exit → Act → World → Prop) (S : World → Prop) (T : Act → Prop) : List Oper → Act → Prop
  | [], a => T a
  | o :: l, a => ∃ v, YieldsIf P ops S o v a ∧ (∀ c a w, Q (.panic c) (a.put o.dst v) w → Q (.panic c) a w) ∧ wpHeadS P ops Q S T l (a.put o.dst v)

/-- What follows, in the text's order; S is shown anew ahead of operation n. -/
def wpSeqT (P : Program) (ops : Array Oper) (Q : Exit → Act → World → Prop) (S : World → Prop) (n : Nat) : Nat → List Oper → Act → World → Prop
  | _, [], a, w => Q .normal a w
  | k, o :: l, a, w => if Region.wanted o (yielded ops a.tmps) = true then o.wp P a w (fun a' w' => (k < n → S w') ∧ wpSeqT P ops Q S n (k + 1) l a' w') Q ∨ (o.asks P a w ∧ LetsOut Q) else (k < n → S w) ∧ wpSeqT P ops Q S n (k + 1) l (a.put o.dst undef) w

theorem wpSeqT_list : ∀ (l : List Oper) (k : Nat) (a : Act) (w : World), n ≤ k → wpList P ops Q l a w → wpSeqT P ops Q S n k l a w
  | [], _, _, _, _, h => h
  | o :: l, k, a, w, hk, h => by
    unfold wpSeqT
    unfold wpList at h
    split
    · rename_i hw
      rw [if_pos hw] at h
      exact h.imp (Oper.wp_mono (fun a' w' h' => ⟨fun hh => absurd hh (by omega), wpSeqT_list l (k + 1) a' w' (by omega) h'⟩)) id
    · rename_i hw
      rw [if_neg hw] at h
      exact ⟨fun hh => absurd hh (by omega), wpSeqT_list l (k + 1) _ w (by omega) h⟩

theorem wpSeqT_step {k : Nat} {o : Oper} {l : List Oper} {a : Act} {w : World}
    (h : ∀ K : Act → World → Prop, (∀ a w, (k < n → S w) → wpSeqT P ops Q S n (k + 1) l a w → K a w) → if Region.wanted o (yielded ops a.tmps) = true then o.wp P a w K Q else K (a.put o.dst undef) w) : wpSeqT P ops Q S n k (o :: l) a w := by
  have := h (fun a w => (k < n → S w) ∧ wpSeqT P ops Q S n (k + 1) l a w) (fun a w h1 h2 => ⟨h1, h2⟩)
  unfold wpSeqT
  split
  · rename_i hw; rw [if_pos hw] at this; exact .inl this
  · rename_i hw; rw [if_neg hw] at this; exact this

theorem wpAnyT_of_seq : ∀ (l : List Oper) (k : Nat) (listed : Array Bool) (a : Act) (w : World), (∀ j, l[j]? = ops[k + j]?) →
    Region.seqB md ops l.length k listed = true → wpSeqT P ops Q S n k l a w → wpAnyT P md ops Q S n l.length listed a w
  | [], _, _, _, _, _, hB, h => ⟨by simpa [Region.seqB] using hB, h⟩
  | o :: l, k, listed, a, w, hl, hB, h => by
    have h0 : ops[k]? = some o := by simpa using (hl 0).symm
    simp only [List.length_cons, Region.seqB, Bool.and_eq_true, decide_eq_true_eq] at hB
    refine ⟨fun h1 => (by rw [hB.1] at h1; cases h1), fun i hi => ?_⟩
    rw [hB.1] at hi
    have hik : i = k := by simpa using hi
    subst hik
    unfold wpOp
    simp only [h0]
    unfold wpSeqT at h
    have next : ∀ a' w', wpSeqT P ops Q S n (i + 1) l a' w' → wpAnyT P md ops Q S n l.length (listed.setIfInBounds i true) a' w' := fun a' w' h' =>
      wpAnyT_of_seq l (i + 1) _ a' w' (fun j => by have := hl (j + 1); simpa [Nat.add_assoc, Nat.add_comm 1 j] using this) hB.2 h'
    split
    · rename_i hw
      rw [if_pos hw] at h
      exact h.imp (Oper.wp_mono (fun a' w' h' => ⟨h'.1, next a' w' h'.2⟩)) id
    · rename_i hw
      rw [if_neg hw] at h
      exact ⟨h.1, next _ _ h.2⟩

theorem wpAnyT_lex {h g : Nat} {T : Act → Prop} {w : World} (hsel : Region.noSelect ops = true) (hs : Region.sinkB md ops n = true) (hc : Region.chainB md ops n = true) (hn : n < ops.size) (hh : h ≤ n) (hS : S w)
    (hT : ∀ listed a, Region.seqB md ops g h listed = true → T a → wpAnyT P md ops Q S n g listed a w) :
    ∀ (l : List Oper) (k : Nat) (listed : Array Bool) (a : Act), (∀ j, j < l.length → l[j]? = ops[k + j]?) → k + l.length = h → HeadInv md ops n listed →
    Region.lexHead md ops g l.length k listed = true → wpHeadS P ops Q S T l a → wpAnyT P md ops Q S n (l.length + g) listed a w
  | [], k, listed, a, _, hk, _, hB, hw => by
    have : k = h := by simpa using hk
    subst this
    simp only [List.length_nil, Nat.zero_add]
    exact hT listed a (by simpa [Region.lexHead] using hB) hw
  | o :: l, k, listed, a, hl, hk, inv, hB, hw => by
    have h0 : ops[k]? = some o := by simpa using (hl 0 (by simp)).symm
    simp only [List.length_cons, Region.lexHead, Bool.and_eq_true] at hB
    obtain ⟨⟨hr, hf⟩, hB'⟩ := hB
    have hkn : k < n := by simp only [List.length_cons] at hk; omega
    have hr' : k ∈ Region.ready md ops listed := by simpa using hr
    obtain ⟨v, hy, hQ, hK⟩ := hw
    have := wpAnyT_first h0 (Region.noSelect_spec hsel) hs hc hn hkn hQ (l.length + g) listed a w inv (Region.free_spec h0 hf) hr' hy hS
      (wpAnyT_lex hsel hs hc hn hh hS hT l (k + 1) _ _ (fun j hj => by have := hl (j + 1) (by simp; omega); simpa [Nat.add_assoc, Nat.add_comm 1 j] using this) (by simp only [List.length_cons] at hk; omega) (inv.set hr' hkn) hB' hK)
    rw [List.length_cons, show l.length + 1 + g = l.length + g + 1 by omega]
    exact this

def mixB (ops : Array Oper) (h n : Nat) : Bool :=
  Region.noSelect ops && decide (n < ops.size) && decide (h ≤ n) && Region.sinkB .any ops n && Region.chainB .any ops n && Region.lexHead .any ops (ops.size - h) h 0 (Array.replicate ops.size false)

theorem wpAny_mix {a : Act} {w : World} {l : List Oper} (h n : Nat) (hB : mixB l.toArray h n = true) (S : World → Prop) (hS : S w)
    (hw : wpHeadS P l.toArray Q S (fun a' => wpSeqT P l.toArray Q S n h (l.drop h) a' w) (l.take h) a) : wpAny P .any l.toArray Q l.toArray.size (Array.replicate l.toArray.size false) a w := by
  simp only [mixB, Bool.and_eq_true, decide_eq_true_eq] at hB
  obtain ⟨⟨⟨⟨⟨hsel, hn⟩, hh⟩, hs⟩, hc⟩, hlex⟩ := hB
  have hn' : n < l.length := by simpa using hn
  have htl : (l.take h).length = h := by simp; omega
  have hdl : (l.drop h).length = l.toArray.size - h := by simp
  have inv0 : HeadInv .any l.toArray n (Array.replicate l.toArray.size false) :=
    ⟨by simp, fun j oj _ hl => (by rw [getD_replicate_false] at hl; cases hl), fun t _ ht => getD_in (by simpa using ht) (getD_replicate_false _ _)⟩
  have H := wpAnyT_lex (md := .any) (g := l.toArray.size - h) (n := n) (T := fun a' => wpSeqT P l.toArray Q S n h (l.drop h) a' w) (w := w) hsel hs hc hn hh hS
    (fun listed a' hq ht => by
      have := wpAnyT_of_seq (md := .any) (l.drop h) h listed a' w (fun j => by simp [List.getElem?_drop]) (by rw [hdl]; exact hq) ht
      rwa [hdl] at this) (l.take h) 0 _ a (fun j hj => by
    have hj' : j < h := by rw [htl] at hj; exact hj
    simp [hj']) (by simpa using htl) inv0 (by rw [htl]; exact hlex) hw
  rw [htl, show h + (l.toArray.size - h) = l.toArray.size by simp; omega] at H
  exact wpAny_of_T _ _ _ _ H

/-- In a round of a range over a function. -/
theorem wpIn_region_mix {l0 m id : Nat} {a : Act} {w : World} {l : List Oper} (h n : Nat) (hm : P.follows .mixedOrders = true) (hd : noDefer l.toArray = true) (hQ : ¬ LetsOut Q) (hB : mixB l.toArray h n = true) (S : World → Prop) (hS : S w.drew)
    (hw : wpHeadS P l.toArray Q S (fun a' => wpSeqT P l.toArray Q S n h (l.drop h) a' w.drew) (l.take h) a) : (Code.region id l.toArray true).wpIn (Fence.wide.inRound l0) m P Q a w :=
  wpIn_region_any hm (wpAny_inRound hd hQ _ _ _ _ (wpAny_mix h n hB S hS hw))

/-- In a plain frame. -/
theorem wp_region_mix {id : Nat} {a : Act} {w : World} {l : List Oper} (h n : Nat) (hm : P.follows .mixedOrders = true) (hB : mixB l.toArray h n = true) (S : World → Prop) (hS : S w.drew)
    (hw : wpHeadS P l.toArray Q S (fun a' => wpSeqT P l.toArray Q S n h (l.drop h) a' w.drew) (l.take h) a) : (Code.region id l.toArray true).wp P Q a w :=
  wp_region_any hm (wpAny_mix h n hB S hS hw)

end
end Go.Proofs.Ytpcjdmbnlhjlaaa
