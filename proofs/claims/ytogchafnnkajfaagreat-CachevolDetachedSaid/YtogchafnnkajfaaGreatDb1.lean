/-
  Merged texts (Db1): what the row proofs use of them.
-/
import Derived.WalkKit
import Derived.WalkSpells
import Derived.WalkLawsBesides
import Derived.Lib.Hide
import Derived.Maps.AppendAt
import Derived.Deep.AppendLies
import Derived.RegionTactic
import Derived.OwnWalk
import Derived.Deep.QuietTactic
import Derived.BigQuiet
import Derived.StillTailTactics
import Derived.Deep.RegionLaw
import Derived.Deep.RegionHeld3
import Derived.Laws.CopyOwn
import Derived.OpenShut
import Derived.Test.YtogchafnnkajfaaGreatRows
import Derived.RangeFuncNested
import Derived.RangeFuncBound
import Derived.RangeFuncCalls
import Derived.RangeFuncLeaves
import Derived.RangeFuncBox
import Derived.Shelf.Abstract
import Derived.Shelf.RegionOpen
import Derived.OwnWalkIn
import Derived.TacticsInMore
import Derived.LoopNIn
import Derived.LoopIn
import Derived.OrdersIn
import Derived.OrdersHeld
import Derived.StillTail
import Derived.Deep.MidRow
import Derived.Deep.WholeRow
import Derived.DeepKeys5
import Derived.MapKept
import Derived.Deep.DeepCutAuto
namespace Go.Proofs.YtogchafnnkajfaaGreat
set_option linter.unusedVariables false
open Go.RowKit
theorem ret_int {k : IntKind} {a b : Int} (h : a = b) : Ending.returned (.int k a) = .returned (.int k b) := by rw [h]
theorem ret_bool {a b : Bool} (h : a = b) : Ending.returned (.bool a) = .returned (.bool b) := by rw [h]
theorem val_int {k : IntKind} {a b : Int} (h : a = b) : Value.int k a = .int k b := by rw [h]
def Reads (w : World) (A : Option Addr) (vs : List Value) : Prop :=
  vs.length ≠ 0 → ∃ b off, A = some ⟨b, off, none⟩ ∧ b < w.heap.size ∧ ∀ i v, vs[i]? = some v → w.cell? ⟨b, off + i, none⟩ = some v
theorem Reads.keep {w w' : World} {A : Option Addr} {vs : List Value} (h : Reads w A vs) (hb : Below w.heap.size w w') : Reads w' A vs := by
  intro hz
  obtain ⟨b, off, e, hlt, hc⟩ := h hz
  exact ⟨b, off, e, Nat.lt_of_lt_of_le hlt hb.size, fun i v hi => (hb.cell (p := ⟨b, off + i, none⟩) hlt).trans (hc i v hi)⟩
theorem Reads.nil {w : World} {A : Option Addr} : Reads w A [] := fun h => absurd rfl h
theorem Reads.take' {w : World} {A : Option Addr} {vs : List Value} (h : Reads w A vs) (n : Nat) : Reads w A (vs.take n) := by
  intro hz
  obtain ⟨b, off, e, hb, hc⟩ := h (by intro e; apply hz; simp [e])
  refine ⟨b, off, e, hb, fun i v hi => hc i v ?_⟩
  have hlt := (List.getElem?_eq_some_iff.1 hi).1
  rw [List.getElem?_take, if_pos (by simp at hlt; omega)] at hi
  exact hi
def uv (l : List Nat) : List Value := l.map fun n : Nat => .int .u64 (n : Int)
def iv (l : List Int) : List Value := l.map fun n => .int .i64 n
def W64 (l : List Nat) : Prop := ∀ x ∈ l, x < 18446744073709551616
def I64 (l : List Int) : Prop := ∀ x ∈ l, -9223372036854775808 ≤ x ∧ x ≤ 9223372036854775807
theorem uv_length (l : List Nat) : (uv l).length = l.length := by simp [uv]
theorem iv_length (l : List Int) : (iv l).length = l.length := by simp [iv]
theorem uv_append (l m : List Nat) : uv (l ++ m) = uv l ++ uv m := by simp [uv]
theorem iv_append (l m : List Int) : iv (l ++ m) = iv l ++ iv m := by simp [iv]
theorem uv_at (l : List Nat) (i : Nat) (h : i < l.length) : (uv l)[i]? = some (.int .u64 ((l[i]?.getD 0 : Nat) : Int)) := by simp [uv, h]
theorem iv_at (l : List Int) (i : Nat) (h : i < l.length) : (iv l)[i]? = some (.int .i64 (l[i]?.getD 0)) := by simp [iv, h]
theorem uv_one (l : List Nat) : ∀ u ∈ uv l, u.oneCell' = true := by
  intro u hu
  obtain ⟨x, _, rfl⟩ := List.mem_map.1 hu
  rfl
theorem iv_one (l : List Int) : ∀ u ∈ iv l, u.oneCell' = true := by
  intro u hu
  obtain ⟨x, _, rfl⟩ := List.mem_map.1 hu
  rfl
theorem W64.at {l : List Nat} (h : W64 l) (i : Nat) : l[i]?.getD 0 < 18446744073709551616 := by
  rcases Nat.lt_or_ge i l.length with hi | hi
  · rw [List.getElem?_eq_getElem hi]; exact h _ (List.getElem_mem hi)
  · rw [List.getElem?_eq_none hi]; decide
theorem W64.set {l : List Nat} (h : W64 l) (i x : Nat) (hx : x < 18446744073709551616) : W64 (l.set i x) := by
  intro y hy
  rcases List.mem_or_eq_of_mem_set hy with hm | rfl
  · exact h y hm
  · exact hx
theorem I64.at {l : List Int} (h : I64 l) (i : Nat) : -9223372036854775808 ≤ l[i]?.getD 0 ∧ l[i]?.getD 0 ≤ 9223372036854775807 := by
  rcases Nat.lt_or_ge i l.length with hi | hi
  · rw [List.getElem?_eq_getElem hi]; exact h _ (List.getElem_mem hi)
  · rw [List.getElem?_eq_none hi]; decide
theorem Reads.u {w : World} {A : Option Addr} {l : List Nat} (h : Reads w A (uv l)) (hl : l.length ≠ 0) :
    ∃ b off, A = some ⟨b, off, none⟩ ∧ b < w.heap.size ∧ ∀ i, i < l.length → w.cell? ⟨b, off + i, none⟩ = some (.int .u64 ((l[i]?.getD 0 : Nat) : Int)) := by
  obtain ⟨b, off, e, hb, hc⟩ := h (by rw [uv_length]; exact hl)
  exact ⟨b, off, e, hb, fun i hi => hc i _ (uv_at l i hi)⟩
theorem Reads.i {w : World} {A : Option Addr} {l : List Int} (h : Reads w A (iv l)) (hl : l.length ≠ 0) :
    ∃ b off, A = some ⟨b, off, none⟩ ∧ b < w.heap.size ∧ ∀ i, i < l.length → w.cell? ⟨b, off + i, none⟩ = some (.int .i64 (l[i]?.getD 0)) := by
  obtain ⟨b, off, e, hb, hc⟩ := h (by rw [iv_length]; exact hl)
  exact ⟨b, off, e, hb, fun i hi => hc i _ (iv_at l i hi)⟩
theorem Reads.of_own {w : World} {base : Nat} {e : TypeId} {size n c : Nat} {A : Option Addr} {xs : List Value} (h : w.ownsRow base e size (.slice A n c) n xs) : Reads w A xs := by
  intro hz
  rcases h.2 with ⟨_, h2⟩ | ⟨g, cap, cur, hv, _, hg, _⟩
  · exact absurd (by rw [h.1, h2]; simp) hz
  · have hA : A = some ⟨g, 0, none⟩ := by injection hv
    subst hA
    refine ⟨g, 0, rfl, (Array.getElem?_eq_some_iff.1 hg).1, fun i v hi => ?_⟩
    have := h.cells (g := g) rfl i v hi
    rwa [Addr.add_lit] at this
theorem Reads.new (w : World) (cs : Array Value) (t : TypeId) : Reads (w.alloc (.cells cs t)) (some ⟨w.heap.size, 0, none⟩) cs.toList := by
  intro _
  refine ⟨w.heap.size, 0, rfl, by simp, fun i v hi => ?_⟩
  rw [World.cell?_alloc_at _ _ _ _ rfl, Nat.zero_add]
  simpa using hi
theorem Reads.alloc {w : World} {A : Option Addr} {vs : List Value} (h : Reads w A vs) (o : Obj) : Reads (w.alloc o) A vs := h.keep ((Below.refl _ _).alloc (Nat.le_refl _) _)
theorem own_form {w : World} {base : Nat} {e : TypeId} {size n : Nat} {v : Value} {xs : List Value} (h : w.ownsRow base e size v n xs) : ∃ A c, v = .slice A n c := by
  rcases h.2 with ⟨hv, h2⟩ | ⟨g, cap, cur, hv, _⟩
  · exact ⟨none, 0, by rw [hv, h2]⟩
  · exact ⟨_, cap, hv⟩
section
variable {P : Program} (w : World)
theorem run_append_of_nil (base : Nat) (t ty e : TypeId) (i : TypeInfo) (size : Nat) (ht : P.underlying t = some (.slice e)) (hi : P.info? e = some i)
    (v : Value) (n : Nat) (xs : List Value) (hown : w.ownsRow base e size v n xs) (c : Nat) : (Builtin.append_ #[t, t] ty #[v, .slice none 0 c]).run P w = .ok v w := by
  rcases hown.2 with ⟨rfl, rfl⟩ | ⟨g, cap, cur, rfl, _, _, hnc, _⟩
  · simp [Builtin.append_, run_underlying ht, sizeOf, typeInfo, hi, Builtin.lenOf, Builtin.firstCells]
  · simp [Builtin.append_, run_underlying ht, sizeOf, typeInfo, hi, Builtin.lenOf, Builtin.firstCells, hnc, storeCells]
theorem run_append_reads (base : Nat) (t ty e : TypeId) (i : TypeInfo) (z : Value) (size bytes : Nat) (ht : P.underlying t = some (.slice e)) (hi : P.info? e = some i) (hz : i.zero = some z)
    (hsize : i.size = size) (hby : i.bytes = bytes) (hzs : z.cells.size = size) (hsz : 0 < size)
    (v : Value) (n : Nat) (xs : List Value) (hown : w.ownsRow base e size v n xs)
    (A : Option Addr) (m c : Nat) (news : List Value) (hm : news.length = m * size) (hr : Reads w A news) (h1 : ∀ u ∈ news, u.oneCell' = true)
    (h63 : n + m ≤ maxLen) (hbytes : (n + m) * bytes ≤ 140737488355328) (hbase : base ≤ w.heap.size) :
    ∃ v' w', (Builtin.append_ #[t, t] ty #[v, .slice A m c]).run P w = .ok v' w' ∧ w'.ownsRow base e size v' (n + m) (xs ++ news) ∧ w.grownBy w' v.ownBlock ∧
      (v'.ownBlock = v.ownBlock ∨ v'.ownBlock = some w.heap.size) := by
  rcases A with _ | ad
  · have hm0 : m = 0 := by
      rcases Nat.eq_zero_or_pos m with h0 | h0
      · exact h0
      · obtain ⟨b, off, h, _⟩ := hr (by rw [hm]; exact Nat.ne_of_gt (Nat.mul_pos h0 hsz))
        cases h
    subst hm0
    have hn : news = [] := List.eq_nil_of_length_eq_zero (by simpa using hm)
    subst hn
    exact ⟨v, w, run_append_of_nil w base t ty e i size ht hi v n xs hown c, by simpa using hown, World.grownBy.refl w _, .inl rfl⟩
  · have hcells : ∀ j u, news[j]? = some u → w.cell? (ad.add j) = some u := by
      intro j u hu
      obtain ⟨b, off, h, _, hc⟩ := hr (by
        intro h0
        rw [List.eq_nil_of_length_eq_zero h0] at hu
        cases hu)
      injection h with h
      subst h
      rw [Addr.add_lit]
      exact hc j u hu
    obtain ⟨v', w', hrun, h2, h3, _, h5⟩ := run_append_own_at (P := P) w base t ty e i z size bytes ht hi hz hsize hby hzs hsz v n xs hown ad m c news hm hcells h1 h63 hbytes hbase
    exact ⟨v', w', hrun, h2, h3, h5⟩
theorem wp_append_reads {o : Oper} {a : Act} {K : Act → World → Prop} {Q : Exit → Act → World → Prop} (s x : Operand) (t : TypeId)
    (ho : o.op = .call { callee := .builtin .append, args := #[s, x], argTypes := #[t, t] })
    (base : Nat) (e : TypeId) (i : TypeInfo) (z : Value) (size bytes : Nat) (ht : P.underlying t = some (.slice e)) (hi : P.info? e = some i) (hz : i.zero = some z)
    (hsize : i.size = size) (hby : i.bytes = bytes) (hzs : z.cells.size = size) (hsz : 0 < size)
    (v : Value) (n : Nat) (xs : List Value) (hs : a.eval s = v) (hown : w.ownsRow base e size v n xs)
    (A : Option Addr) (m c : Nat) (news : List Value) (hx : a.eval x = .slice A m c) (hm : news.length = m * size) (hr : Reads w A news) (h1 : ∀ u ∈ news, u.oneCell' = true)
    (h63 : n + m ≤ maxLen) (hbytes : (n + m) * bytes ≤ 140737488355328) (hbase : base ≤ w.heap.size)
    (h : ∀ v' w', w'.ownsRow base e size v' (n + m) (xs ++ news) → w.grownBy w' v.ownBlock → (v'.ownBlock = v.ownBlock ∨ v'.ownBlock = some w.heap.size) → K (a.put o.dst v') w') : o.wp P a w K Q := by
  obtain ⟨v', w', hrun, h2, h3, h4⟩ := run_append_reads (P := P) w base t o.type e i z size bytes ht hi hz hsize hby hzs hsz v n xs hown A m c news hm hr h1 h63 hbytes hbase
  unfold Oper.wp execOp
  simp only [ho, resolve, invoke, builtin, Sem.run_bind, Sem.run_pure, Result.andThen_ok, List.map_toArray, List.map_cons, List.map_nil, hs, hx, hrun]
  exact h v' w' h2 h3 h4
theorem wpList_append_reads {ops : Array Oper} {rest : List Oper} {o : Oper} {a : Act} {Q : Exit → Act → World → Prop} (hgd : o.guard = none) (s x : Operand) (t : TypeId)
    (ho : o.op = .call { callee := .builtin .append, args := #[s, x], argTypes := #[t, t] })
    (base : Nat) (e : TypeId) (i : TypeInfo) (z : Value) (size bytes : Nat) (ht : P.underlying t = some (.slice e)) (hi : P.info? e = some i) (hz : i.zero = some z)
    (hsize : i.size = size) (hby : i.bytes = bytes) (hzs : z.cells.size = size) (hsz : 0 < size)
    (v : Value) (n : Nat) (xs : List Value) (hs : a.eval s = v) (hown : w.ownsRow base e size v n xs)
    (A : Option Addr) (m c : Nat) (news : List Value) (hx : a.eval x = .slice A m c) (hm : news.length = m * size) (hr : Reads w A news) (h1 : ∀ u ∈ news, u.oneCell' = true)
    (h63 : n + m ≤ maxLen) (hbytes : (n + m) * bytes ≤ 140737488355328) (hbase : base ≤ w.heap.size)
    (h : ∀ v' w', w'.ownsRow base e size v' (n + m) (xs ++ news) → w.grownBy w' v.ownBlock → (v'.ownBlock = v.ownBlock ∨ v'.ownBlock = some w.heap.size) → wpList P ops Q rest (a.put o.dst v') w') : wpList P ops Q (o :: rest) a w :=
  wpList_plain hgd fun _ hK => wp_append_reads w s x t ho base e i z size bytes ht hi hz hsize hby hzs hsz v n xs hs hown A m c news hx hm hr h1 h63 hbytes hbase fun v' w' h2 h3 h4 => hK _ _ (h v' w' h2 h3 h4)
theorem step_append_reads {ops : Array Oper} {o : Oper} {a : Act} {K : Act → World → Prop} {Q : Exit → Act → World → Prop} {E : Prop} (hgd : o.guard = none) (s x : Operand) (t : TypeId)
    (ho : o.op = .call { callee := .builtin .append, args := #[s, x], argTypes := #[t, t] })
    (base : Nat) (e : TypeId) (i : TypeInfo) (z : Value) (size bytes : Nat) (ht : P.underlying t = some (.slice e)) (hi : P.info? e = some i) (hz : i.zero = some z)
    (hsize : i.size = size) (hby : i.bytes = bytes) (hzs : z.cells.size = size) (hsz : 0 < size)
    (v : Value) (n : Nat) (xs : List Value) (hs : a.eval s = v) (hown : w.ownsRow base e size v n xs)
    (A : Option Addr) (m c : Nat) (news : List Value) (hx : a.eval x = .slice A m c) (hm : news.length = m * size) (hr : Reads w A news) (h1 : ∀ u ∈ news, u.oneCell' = true)
    (h63 : n + m ≤ maxLen) (hbytes : (n + m) * bytes ≤ 140737488355328) (hbase : base ≤ w.heap.size)
    (h : ∀ v' w', w'.ownsRow base e size v' (n + m) (xs ++ news) → w.grownBy w' v.ownBlock → (v'.ownBlock = v.ownBlock ∨ v'.ownBlock = some w.heap.size) → K (a.put o.dst v') w') :
    if Region.wanted o (yielded ops a.tmps) = true then Oper.wp P o a w K Q else E := by
  have hw : Region.wanted o (yielded ops a.tmps) = true := by simp [Region.wanted, hgd]
  rw [if_pos hw]
  exact wp_append_reads w s x t ho base e i z size bytes ht hi hz hsize hby hzs hsz v n xs hs hown A m c news hx hm hr h1 h63 hbytes hbase h
end
end Go.Proofs.YtogchafnnkajfaaGreat
namespace Go.Proofs.YtogchafnnkajfaaGreat
set_option linter.unusedVariables false
theorem two_pow_lt (k : Nat) (h : k < 64) : 2 ^ k < 18446744073709551616 := by
  have := Nat.pow_lt_pow_right (a := 2) (by omega) h
  simpa using this
theorem cast_two_pow (k : Nat) : (2 : Int) ^ k = ((2 ^ k : Nat) : Int) := by rw [Int.natCast_pow]; rfl
theorem wrap_nat (a : Nat) : IntKind.u64.wrap (a : Int) = ((a % 18446744073709551616 : Nat) : Int) := by
  rw [IntKind.wrap_u64]; omega
theorem cast_shr (x k : Nat) : (x : Int) / 2 ^ k = ((x >>> k : Nat) : Int) := by
  rw [cast_two_pow, Nat.shiftRight_eq_div_pow]; rfl
theorem or_lt {a b : Nat} (ha : a < 18446744073709551616) (hb : b < 18446744073709551616) : a ||| b < 18446744073709551616 :=
  Nat.or_lt_two_pow (n := 64) ha hb
theorem and_lt {a : Nat} (b : Nat) (ha : a < 18446744073709551616) : a &&& b < 18446744073709551616 :=
  Nat.lt_of_le_of_lt Nat.and_le_left ha
end Go.Proofs.YtogchafnnkajfaaGreat
namespace Go.Proofs.YtogchafnnkajfaaGreat
set_option linter.unusedVariables false
def poly : Nat := 2197175160
def stepC (x : Nat) : Nat := (x >>> 1) ^^^ (if x.testBit 0 then poly else 0)
def stepN : Nat → Nat → Nat
  | 0, x => x
  | k + 1, x => stepC (stepN k x)
def step8 (x : Nat) : Nat := stepN 8 x
def feedC (x b : Nat) : Nat := step8 (x ^^^ b)
def byteC (w i : Nat) : Nat := (w >>> (8 * i)) % 256
def wordC (x w : Nat) : Nat → Nat
  | 0 => x
  | k + 1 => feedC (wordC x w k) (byteC w k)
def wordsC (x : Nat) (l : List Nat) : Nat := l.foldl (fun x w => wordC x w 8) x
def extendC (s : Nat) (l : List Nat) : Nat := 4294967295 - wordsC (4294967295 - s) l
def shortC (s : Nat) : Nat := ((s >>> 16) % 65536) ^^^ (s % 65536)
theorem stepC_xor (a b : Nat) : stepC (a ^^^ b) = stepC a ^^^ stepC b := by
  unfold stepC
  rw [Nat.shiftRight_xor_distrib, Nat.testBit_xor]
  apply Nat.eq_of_testBit_eq
  intro j
  cases a.testBit 0 <;> cases b.testBit 0 <;> simp only [Nat.testBit_xor, Nat.zero_testBit, if_true, if_false, Bool.xor_false, Bool.xor_true, Bool.not_false, Bool.not_true, Bool.false_eq_true] <;>
    generalize (a >>> 1).testBit j = p <;> generalize (b >>> 1).testBit j = q <;> generalize poly.testBit j = r <;> cases p <;> cases q <;> cases r <;> rfl
theorem stepN_xor (k a b : Nat) : stepN k (a ^^^ b) = stepN k a ^^^ stepN k b := by
  induction k with
  | zero => rfl
  | succ k ih => simp only [stepN, ih, stepC_xor]
theorem stepC_even (m : Nat) : stepC (2 * m) = m := by
  unfold stepC
  have : (2 * m).testBit 0 = false := by simp
  rw [this, Nat.shiftRight_eq_div_pow]
  simp
theorem stepN_shift (k m : Nat) : stepN k (2 ^ k * m) = m := by
  induction k generalizing m with
  | zero => simp [stepN]
  | succ k ih =>
    have : 2 ^ (k + 1) * m = 2 ^ k * (2 * m) := by rw [Nat.pow_succ, Nat.mul_assoc]
    rw [stepN, this, ih, stepC_even]
theorem split8 (y : Nat) : y = (y % 256) ^^^ (2 ^ 8 * (y >>> 8)) := by
  have h1 : y % 256 < 2 ^ 8 := Nat.mod_lt _ (by omega)
  have h2 : 2 ^ 8 * (y >>> 8) + y % 256 = y := by rw [Nat.shiftRight_eq_div_pow]; omega
  apply Nat.eq_of_testBit_eq
  intro j
  rw [Nat.testBit_xor, Nat.testBit_two_pow_mul, show (256 : Nat) = 2 ^ 8 from rfl, Nat.testBit_mod_two_pow, Nat.testBit_shiftRight]
  by_cases h : j < 8
  · have : ¬ 8 ≤ j := by omega
    simp [h, this]
  · have h' : 8 ≤ j := by omega
    have : 8 + (j - 8) = j := by omega
    simp [h, h', this]
theorem feedC_table (x b : Nat) (hb : b < 256) : feedC x b = step8 ((x % 256) ^^^ b) ^^^ (x >>> 8) := by
  unfold feedC step8
  have e1 : (x ^^^ b) % 256 = (x % 256) ^^^ b := by
    have : b = b % 2 ^ 8 := (Nat.mod_eq_of_lt hb).symm
    rw [show (256 : Nat) = 2 ^ 8 from rfl, Nat.xor_mod_two_pow, ← this]
  have e2 : (x ^^^ b) >>> 8 = x >>> 8 := by
    rw [Nat.shiftRight_xor_distrib, Nat.shiftRight_eq_div_pow b, Nat.div_eq_of_lt hb, Nat.xor_zero]
  conv => lhs; rw [split8 (x ^^^ b)]
  rw [stepN_xor, stepN_shift, e1, e2]
theorem poly_lt : poly < 4294967296 := by decide
theorem stepC_lt (x : Nat) (h : x < 4294967296) : stepC x < 4294967296 := by
  unfold stepC
  refine Nat.xor_lt_two_pow (n := 32) ?_ ?_
  · rw [Nat.shiftRight_eq_div_pow]; omega
  · split
    · exact poly_lt
    · omega
theorem stepN_lt (k x : Nat) (h : x < 4294967296) : stepN k x < 4294967296 := by
  induction k with
  | zero => exact h
  | succ k ih => exact stepC_lt _ ih
theorem feedC_lt (x b : Nat) (h : x < 4294967296) (hb : b < 256) : feedC x b < 4294967296 :=
  stepN_lt 8 _ (Nat.xor_lt_two_pow (n := 32) h (by omega))
theorem byteC_lt (w i : Nat) : byteC w i < 256 := Nat.mod_lt _ (by omega)
theorem wordC_lt (x w k : Nat) (h : x < 4294967296) : wordC x w k < 4294967296 := by
  induction k with
  | zero => exact h
  | succ k ih => exact feedC_lt _ _ ih (byteC_lt _ _)
theorem wordsC_lt (x : Nat) (l : List Nat) (h : x < 4294967296) : wordsC x l < 4294967296 := by
  induction l generalizing x with
  | nil => exact h
  | cons w l ih => exact ih _ (wordC_lt _ _ _ h)
theorem wordsC_snoc (x : Nat) (l : List Nat) (w : Nat) : wordsC x (l ++ [w]) = wordC (wordsC x l) w 8 := by simp [wordsC]
theorem shortC_lt (s : Nat) : shortC s < 65536 := by
  unfold shortC
  exact Nat.xor_lt_two_pow (n := 16) (Nat.mod_lt _ (by omega)) (Nat.mod_lt _ (by omega))
end Go.Proofs.YtogchafnnkajfaaGreat
namespace Go.Proofs.YtogchafnnkajfaaGreat
set_option linter.unusedVariables false
open Go.RowKit
theorem u64_info : (Tryz.prog.info? 26).map (fun i => (i.zero, i.size, i.bytes)) = some (some (.int .u64 0), 1, 8) := by kernel_rfl
theorem int_info : (Tryz.prog.info? 3).map (fun i => (i.zero, i.size, i.bytes)) = some (some (.int .i64 0), 1, 8) := by kernel_rfl
theorem clone_any (A : Option Addr) (c : Nat) (l : List Nat) (w : World) (hA : Reads w A (uv l)) (hl : l.length ≤ 1000000) :
    Calls Tryz.prog 62 #[.slice A l.length c] w fun e w' => ∃ v, e = .returned v ∧ w'.ownsRow w.heap.size 26 1 v l.length (uv l) ∧ Below w.heap.size w w' := by
  obtain ⟨i0, hi0, hz0, hz1, hz2⟩ := info_parts u64_info
  have hn := fun W => Lib.run_eql_slice_nil (P := Tryz.prog) W 29 26 A l.length c 0 0 Tryz.underlying29
  rcases A with _ | a
  · have h0 : l = [] := by
      rcases Nat.eq_zero_or_pos l.length with h | h
      · exact List.eq_nil_of_length_eq_zero h
      · obtain ⟨b, off, h, _⟩ := hA.u (by omega)
        cases h
    subst h0
    simp only [List.length_nil, Option.isNone_none] at hn ⊢
    go_enter Tryz.func62, Tryz.ntmps62
    go_wp2
    go_ret
    exact ⟨_, rfl, World.ownsRow_nil _ _ _ _, Below.refl _ _⟩
  · go_enter Tryz.func62, Tryz.ntmps62
    go_wp2_with (at_builtin; refine wpList_append_reads _ rfl _ _ _ rfl w.heap.size 26 i0 _ 1 8 Tryz.underlying29 hi0 hz0 hz1 hz2 rfl (by omega) (.slice (some ⟨w.heap.size, 0, none⟩) 0 0) 0 [] rfl (World.ownsRow_lit w #[] 0 (Nat.le_refl _) (by simp only [maxLen]; omega) rfl) (some a) l.length c (uv l) rfl (by rw [uv_length]; omega) (hA.keep ((Below.refl _ _).alloc (Nat.le_refl _) _)) (uv_one l) (by simp only [maxLen]; omega) (by omega) (by simp) ?_; intro v1 w1 hown1 hg1 hat1)
    go_ret
    refine ⟨v1, rfl, by simpa using hown1, ((Below.refl _ w).alloc (Nat.le_refl _) _).grown hg1 (by simp) ?_⟩
    intro k hk
    simp [Value.ownBlock] at hk
    omega
theorem uv_set (l : List Nat) (i x : Nat) : (uv l).set i (.int .u64 (x : Int)) = uv (l.set i x) := by simp [uv, List.map_set]
theorem take_eq_snoc {xs ys : List Nat} {k : Nat} (hx : k < xs.length) (hl : xs.length = ys.length) (h : xs.take k = ys.take k) (e : xs[k]?.getD 0 = ys[k]?.getD 0) : xs.take (k + 1) = ys.take (k + 1) := by
  have hy : k < ys.length := by omega
  rw [List.take_succ_eq_append_getElem hx, List.take_succ_eq_append_getElem hy, h]
  simp [hx, hy] at e
  rw [e]
set_option maxHeartbeats 400000 in
theorem same_any (A B : Option Addr) (c d : Nat) (xs ys : List Nat) (w : World) (ha : Reads w A (uv xs)) (hb : Reads w B (uv ys)) (hx : xs.length ≤ 1000000) (hy : ys.length ≤ 1000000) :
    Calls Tryz.prog 28 #[.slice A xs.length c, .slice B ys.length d] w fun e w' => e = .returned (.bool (decide (xs = ys))) ∧ ∃ n, w' = w.drewN n := by
  by_cases hl : xs.length = ys.length
  · have H1 : ((xs.length : Int) != (ys.length : Int)) = false := by simp; omega
    have HL := Lib.hid hl
    obtain ⟨n, hn⟩ : ∃ n, xs.length = n := ⟨_, rfl⟩
    rw [← hl, hn] at H1 ⊢
    rw [hn] at hx
    have HN := Lib.hid hn
    clear hl hn hy
    have hcx : ∀ i, i < n → ∃ b off, A = some ⟨b, off, none⟩ ∧ w.cell? ⟨b, off + i, none⟩ = some (.int .u64 ((xs[i]?.getD 0 : Nat) : Int)) := by
      intro i hi
      obtain ⟨b, off, e, _, hc⟩ := ha.u (by rw [HN.out]; omega)
      exact ⟨b, off, e, hc i (by rw [HN.out]; exact hi)⟩
    have hcy : ∀ i, i < n → ∃ b off, B = some ⟨b, off, none⟩ ∧ w.cell? ⟨b, off + i, none⟩ = some (.int .u64 ((ys[i]?.getD 0 : Nat) : Int)) := by
      intro i hi
      obtain ⟨b, off, e, _, hc⟩ := hb.u (by rw [← HL.out, HN.out]; omega)
      exact ⟨b, off, e, hc i (by rw [← HL.out, HN.out]; exact hi)⟩
    have HX := Lib.hid hcx
    have HY := Lib.hid hcy
    clear hcx hcy ha hb
    go_enter Tryz.func28, Tryz.ntmps28
    go_wp2
    go_loopw [5] (fun i wr => ∃ k m : Nat, k ≤ n ∧ i = .int .i64 k ∧ wr = w.drewN m ∧ Hid (xs.take k = ys.take k)) (fun i _ => n - (intOf i).toNat)
    case atStart => exact ⟨0, 0, Nat.zero_le _, rfl, rfl, by show _ = _; simp⟩
    case round =>
      obtain ⟨k, m, hk, rfl, rfl, hs⟩ := hrel
      by_cases hlt : k < n
      · obtain ⟨b, off, rfl, hc1⟩ := HX.out k hlt
        obtain ⟨b2, off2, rfl, hc2⟩ := HY.out k hlt
        obtain ⟨x, ex⟩ : ∃ x, xs[k]?.getD 0 = x := ⟨_, rfl⟩
        obtain ⟨y, ey⟩ : ∃ y, ys[k]?.getD 0 = y := ⟨_, rfl⟩
        rw [ex] at hc1
        rw [ey] at hc2
        have EX := Lib.hid ex
        have EY := Lib.hid ey
        clear ex ey
        by_cases hxy : x = y
        · have hq : ((x : Int) != (y : Int)) = false := by simp; omega
          go_wp2
          go_quiet (fail)
          go_wp2
          go_roundw
          case rel => exact ⟨k + 1, _, by omega, by go_num, rfl, take_eq_snoc (by rw [HN.out]; omega) HL.out hs.out (by rw [EX.out, EY.out, hxy])⟩
          case measure => simp [intOf]; omega
        · have hq : ((x : Int) != (y : Int)) = true := by simp; omega
          go_wp2
          go_quiet (fail)
          go_wp2
          go_ret
          refine ⟨?_, m + nq, by rw [World.drewN_drewN]⟩
          have : decide (xs = ys) = false := by
            simp only [decide_eq_false_iff_not]
            intro h
            exact hxy (by rw [← EX.out, ← EY.out, h])
          rw [this]
          rfl
      · go_wp2
        go_ret
        refine ⟨?_, _, rfl⟩
        have : decide (xs = ys) = true := by
          have h := hs.out
          rw [List.take_of_length_le (by rw [HN.out]; omega), List.take_of_length_le (by rw [← HL.out, HN.out]; omega)] at h
          simpa using h
        rw [this]
        rfl
  · have h1 : ((xs.length : Int) != (ys.length : Int)) = true := by simp; omega
    have h2 : Hid (decide (xs = ys) = false) := by show decide (xs = ys) = false; simp; intro h; exact hl (by rw [h])
    go_enter Tryz.func28, Tryz.ntmps28
    go_wp2
    go_ret
    exact ⟨by rw [h2.out]; rfl, 0, rfl⟩
theorem addr_plain {w : World} {x : Addr} {v : Value} (h : w.cell? x = some v) : ∃ b off, x = ⟨b, off, none⟩ := by
  obtain ⟨b, off, spot⟩ := x
  cases spot with
  | none => exact ⟨b, off, rfl⟩
  | some s =>
    unfold World.cell? at h
    split at h <;> simp at h
theorem wf_u64 {n : Int} (h : (Lit.int .u64 n).wf = true) : 0 ≤ n ∧ n < 18446744073709551616 := by
  have := bounds_u64 h
  omega
theorem isRow_u {w : World} {a : Option Addr} {len cap : Nat} {zs : List Int}
    (h : (a = none ∧ len = 0 ∧ cap = 0 ∧ zs = []) ∨
      ∃ x, a = some x ∧ len ≤ cap ∧ cap ≤ maxLen ∧ zs.length = cap ∧ (∀ i, i < zs.length → w.cell? (x.add i) = some (.int .u64 (zs.getD i 0))) ∧ ∀ n ∈ zs, (Lit.int .u64 n).wf = true) :
    ∃ l : List Nat, l.length = len ∧ Reads w a (uv l) ∧ W64 l := by
  rcases h with ⟨rfl, rfl, _, _⟩ | ⟨x, rfl, hl, _, hz, hc, hw⟩
  · exact ⟨[], rfl, Reads.nil, by intro x hx; cases hx⟩
  · refine ⟨(zs.take len).map Int.toNat, by simp; omega, ?_, ?_⟩
    · intro hne
      have h0 := hc 0 (by rw [uv_length] at hne; simp at hne; omega)
      obtain ⟨b, off, rfl⟩ := addr_plain (show w.cell? (x.add 0) = _ from h0)
      refine ⟨b, off, rfl, World.block_lt_of_cell? _ _ h0, fun i v hi => ?_⟩
      have hil : i < (uv ((zs.take len).map Int.toNat)).length := (List.getElem?_eq_some_iff.1 hi).1
      rw [uv_length] at hil
      rw [uv_at _ _ hil] at hi
      have hil' : i < len ∧ i < zs.length := by simp at hil; omega
      have h1 := hc i hil'.2
      rw [Addr.add_lit] at h1
      rw [h1, ← hi]
      congr 2
      have hz : zs.getD i 0 = zs[i] := by simp [hil'.2]
      have := wf_u64 (hw _ (List.getElem_mem hil'.2))
      rw [hz]
      simp [hil'.1, hil'.2]
      omega
    · intro y hy
      simp only [List.mem_map] at hy
      obtain ⟨z, hz, rfl⟩ := hy
      have := wf_u64 (hw z (List.mem_of_mem_take hz))
      omega
theorem isRow_i {w : World} {a : Option Addr} {len cap : Nat} {zs : List Int}
    (h : (a = none ∧ len = 0 ∧ cap = 0 ∧ zs = []) ∨
      ∃ x, a = some x ∧ len ≤ cap ∧ cap ≤ maxLen ∧ zs.length = cap ∧ (∀ i, i < zs.length → w.cell? (x.add i) = some (.int .i64 (zs.getD i 0))) ∧ ∀ n ∈ zs, (Lit.int .i64 n).wf = true) :
    ∃ l : List Int, l.length = len ∧ Reads w a (iv l) ∧ I64 l := by
  rcases h with ⟨rfl, rfl, _, _⟩ | ⟨x, rfl, hl, _, hz, hc, hw⟩
  · exact ⟨[], rfl, Reads.nil, by intro x hx; cases hx⟩
  · refine ⟨zs.take len, by simp; omega, ?_, ?_⟩
    · intro hne
      have h0 := hc 0 (by rw [iv_length] at hne; simp at hne; omega)
      obtain ⟨b, off, rfl⟩ := addr_plain (show w.cell? (x.add 0) = _ from h0)
      refine ⟨b, off, rfl, World.block_lt_of_cell? _ _ h0, fun i v hi => ?_⟩
      have hil : i < (iv (zs.take len)).length := (List.getElem?_eq_some_iff.1 hi).1
      rw [iv_length] at hil
      rw [iv_at _ _ hil] at hi
      have hil' : i < len ∧ i < zs.length := by simp at hil; omega
      have h1 := hc i hil'.2
      rw [Addr.add_lit] at h1
      rw [h1, ← hi]
      congr 2
      simp [hil'.1]
    · intro y hy
      have := bounds_i64 (hw y (List.mem_of_mem_take hy))
      omega
theorem same_any' (A B : Option Addr) (c d N M : Nat) (xs ys : List Nat) (w : World) (hN : xs.length = N) (hM : ys.length = M) (ha : Reads w A (uv xs)) (hb : Reads w B (uv ys)) (hx : N ≤ 1000000) (hy : M ≤ 1000000) :
    Calls Tryz.prog 28 #[.slice A N c, .slice B M d] w fun e w' => e = .returned (.bool (decide (xs = ys))) ∧ ∃ n, w' = w.drewN n := by
  subst hN
  subst hM
  exact same_any A B c d xs ys w ha hb hx hy
theorem ones_wrap (n : Nat) (h : n < 64) : IntKind.u64.wrap (IntKind.u64.wrap (2 ^ n) - 1) = ((2 ^ n - 1 : Nat) : Int) := by
  have h2 : 2 ^ n < 2 ^ 64 := Nat.pow_lt_pow_right (by omega) h
  have h0 : 0 < 2 ^ n := Nat.pow_pos (by omega)
  rw [cast_two_pow, wrap_nat, Nat.mod_eq_of_lt h2]
  have e : ((2 ^ n : Nat) : Int) - 1 = ((2 ^ n - 1 : Nat) : Int) := by omega
  rw [e, wrap_nat, Nat.mod_eq_of_lt (by omega)]
theorem own_base {w : World} {base : Nat} {e : TypeId} {size n : Nat} {v : Value} {xs : List Value} (h : w.ownsRow base e size v n xs) : ∀ j, v.ownBlock = some j → base ≤ j := by
  intro j ej
  rcases h.2 with ⟨rfl, _⟩ | ⟨g, cap, cur, rfl, hb, _, _⟩
  · simp [Value.ownBlock] at ej
  · obtain rfl : g = j := by simpa [Value.ownBlock] using ej
    exact hb
theorem own_keep {W W' : World} {base g : Nat} {e : TypeId} {size n : Nat} {v : Value} {xs : List Value} (h : W.ownsRow base e size v n xs) (hg : W.grownBy W' (some g)) (hl : g < base) : W'.ownsRow base e size v n xs :=
  h.kept hg (.inr (fun e => by have := own_base h _ e; omega))
theorem app_below {W w' : World} {base : Nat} {e : TypeId} {size n : Nat} {v : Value} {xs : List Value} {o : Obj} (h : W.ownsRow base e size v n xs) (hg : (W.alloc o).grownBy w' v.ownBlock) (hle : base ≤ W.heap.size) : Below base W w' :=
  ((Below.refl base W).alloc hle o).grown hg (by simp; omega) (own_base h)
theorem any_u64 (x : Int) : ∃ y : Nat, IntKind.u64.wrap x = (y : Int) ∧ y < 18446744073709551616 := by
  have h : IntKind.u64.wrap x = x % 18446744073709551616 := by simp [IntKind.wrap, IntKind.signed, IntKind.bits]
  refine ⟨(x % 18446744073709551616).toNat, ?_, ?_⟩ <;> omega
end Go.Proofs.YtogchafnnkajfaaGreat
namespace Go.Proofs.YtogchafnnkajfaaGreat
set_option linter.unusedVariables false
def okW : Int → List Int → Bool
  | _, [] => true
  | s, w :: r => decide (1 ≤ w ∧ w ≤ 64 ∧ s + w ≤ 64) && okW (s + w) r
theorem okW_at (s : Int) (ws : List Int) (k : Nat) (h : okW s ws = true) (hk : k < ws.length) :
    1 ≤ ws[k]?.getD 0 ∧ ws[k]?.getD 0 ≤ 64 ∧ s + (ws.take k).sum + ws[k]?.getD 0 ≤ 64 := by
  induction ws generalizing s k with
  | nil => simp at hk
  | cons w r ih =>
    simp only [okW, Bool.and_eq_true, decide_eq_true_eq] at h
    cases k with
    | zero => simp; omega
    | succ k =>
      have := ih (s + w) k h.2 (by simpa using hk)
      simp at this ⊢
      omega
theorem okW_drop (s : Int) (ws : List Int) (k : Nat) (hk : k < ws.length) (x : Int) (hx : ws[k]?.getD 0 = x) : okW s (ws.drop k) = (decide (1 ≤ x ∧ x ≤ 64 ∧ s + x ≤ 64) && okW (s + x) (ws.drop (k + 1))) := by
  rw [List.drop_eq_getElem_cons hk, okW]
  have : ws[k] = x := by rw [← hx, List.getElem?_eq_getElem hk]; rfl
  rw [this]
theorem sum_take_succ (ws : List Int) (k : Nat) (hk : k < ws.length) : (ws.take (k + 1)).sum = (ws.take k).sum + ws[k]?.getD 0 := by
  rw [List.take_succ_eq_append_getElem hk, List.sum_append, List.getElem?_eq_getElem hk]
  simp
def fldAt (ws : List Int) (k : Nat) : Nat := ((ws.take k).sum).toNat
def maskOf (x : Int) : Nat := 2 ^ x.toNat - 1
end Go.Proofs.YtogchafnnkajfaaGreat
namespace Go.Proofs.YtogchafnnkajfaaGreat
set_option linter.unusedVariables false
open Go.RowKit
set_option maxHeartbeats 400000 in
theorem divided_any (A : Option Addr) (c : Nat) (ws : List Int) (w : World) (hA : Reads w A (iv ws)) (hl : ws.length ≤ 1000000) :
    Calls Tryz.prog 142 #[.slice A ws.length c] w fun e w' => e = .returned (.bool (okW 0 ws)) ∧ w = w' := by
  obtain ⟨n, hn⟩ : ∃ n, ws.length = n := ⟨_, rfl⟩
  have hcx : ∀ i, i < n → ∃ b off, A = some ⟨b, off, none⟩ ∧ w.cell? ⟨b, off + i, none⟩ = some (.int .i64 (ws[i]?.getD 0)) := by
    intro i hi
    obtain ⟨b, off, e, _, hc⟩ := hA.i (by omega)
    exact ⟨b, off, e, hc i (by omega)⟩
  have HX := Lib.hid hcx
  rw [hn] at hl ⊢
  have HN := Lib.hid hn
  clear hcx hA hn
  go_enter Tryz.func142, Tryz.ntmps142
  go_wp2
  go_loop [3, 8] (fun s i => ∃ (k : Nat) (t : Int), k ≤ n ∧ i = .int .i64 k ∧ s = .int .i64 t ∧ 0 ≤ t ∧ t ≤ 64 ∧ Hid (okW 0 ws = okW t (ws.drop k))) (fun _ i => n - (intOf i).toNat)
  case atStart => exact ⟨0, 0, Nat.zero_le _, rfl, rfl, by omega, by omega, rfl⟩
  case round =>
    obtain ⟨k, t, hk, rfl, rfl, ht0, ht1, hs⟩ := hrel
    by_cases hlt : k < n
    · obtain ⟨b, off, rfl, hc1⟩ := HX.out k hlt
      obtain ⟨x, ex⟩ : ∃ x, ws[k]?.getD 0 = x := ⟨_, rfl⟩
      have H2 := Lib.hid (okW_drop t ws k (by rw [HN.out]; exact hlt) x ex)
      rw [ex] at hc1
      clear ex
      by_cases h1 : x < 1
      · go_wp2
        go_ret
        exact ⟨ret_bool (by rw [hs.out, H2.out]; simp; intros; omega), rfl⟩
      · by_cases h2 : 64 < x
        · go_wp2
          go_ret
          exact ⟨ret_bool (by rw [hs.out, H2.out]; simp; intros; omega), rfl⟩
        · by_cases h3 : 64 < t + x
          · go_wp2
            go_ret
            exact ⟨ret_bool (by rw [hs.out, H2.out]; simp; intros; omega), rfl⟩
          · have H3 : Hid (okW 0 ws = okW (t + x) (ws.drop (k + 1))) := by
              show _ = _
              rw [hs.out, H2.out]
              simp
              intros; omega
            go_wp2
            go_round
            case rel => exact ⟨k + 1, t + x, by omega, by go_num, rfl, by omega, by omega, H3⟩
            case measure => simp [intOf]; omega
    · go_wp2
      go_ret
      refine ⟨ret_bool ?_, rfl⟩
      rw [hs.out, List.drop_of_length_le (by rw [HN.out]; omega)]
      rfl
end Go.Proofs.YtogchafnnkajfaaGreat
namespace Go.Proofs.YtogchafnnkajfaaGreat
set_option linter.unusedVariables false
open Go.RowKit
def upto {α : Type} (f : Nat → α) (k : Nat) : List α := (List.range k).map f
theorem upto_succ {α : Type} (f : Nat → α) (k : Nat) : upto f (k + 1) = upto f k ++ [f k] := by simp [upto, List.range_succ]
theorem upto_length {α : Type} (f : Nat → α) (k : Nat) : (upto f k).length = k := by simp [upto]
structure KeepB (n₀ Bs : Nat) (W W' : World) : Prop where
  below : Below n₀ W W'
  box : W'.heap[Bs]? = W.heap[Bs]?
theorem KeepB.refl (n₀ Bs : Nat) (W : World) : KeepB n₀ Bs W W := ⟨Below.refl _ _, rfl⟩
theorem KeepB.trans {n₀ Bs : Nat} {A B C : World} (h : KeepB n₀ Bs A B) (k : KeepB n₀ Bs B C) : KeepB n₀ Bs A C := ⟨h.below.trans k.below, k.box.trans h.box⟩
theorem KeepB.putObj {n₀ Bs : Nat} {W0 : World} (hn : n₀ ≤ W0.heap.size) (hB : Bs < W0.heap.size) : ∀ (W : World) (l : Nat) (o o' : Obj), W0.heap.size ≤ l → W.heap[l]? = some o → o.isCells = false → o.isWalk = false → KeepB n₀ Bs W (W.putObj l o') :=
  fun W l o o' hl h1 h2 h3 => ⟨belowK_b (w := W0) hn W l o o' hl h1 h2 h3, World.putObj_heap_other (by omega)⟩
theorem KeepB.setCell {n₀ Bs : Nat} {A W : World} (h : KeepB n₀ Bs A W) {b i : Nat} (hn : n₀ ≤ b) (hB : b ≠ Bs) (u : Value) : KeepB n₀ Bs A (W.setCell ⟨b, i, none⟩ u) :=
  ⟨h.below.setCell (p := ⟨b, i, none⟩) hn u, (Below.heap_setCell _ _ _ _ (fun e => hB e.symm)).trans h.box⟩
theorem KeepB.drew {n₀ Bs : Nat} {A W : World} (h : KeepB n₀ Bs A W) : KeepB n₀ Bs A W.drew := ⟨h.below.drew, h.box⟩
end Go.Proofs.YtogchafnnkajfaaGreat
namespace Go.Proofs.YtogchafnnkajfaaGreat
set_option linter.unusedVariables false
open Go
def noDefer (ops : Array Oper) : Bool := ops.all fun o => match o.op with | .defer _ => false | _ => true
theorem noDefer_at {ops : Array Oper} (h : noDefer ops = true) {i : Nat} {o : Oper} (ho : ops[i]? = some o) : ∀ c, o.op ≠ .defer c := by
  intro c hc
  obtain ⟨hlt, hx⟩ := Array.getElem?_eq_some_iff.1 ho
  have := (Array.all_eq_true.1 h) i hlt
  rw [hx, hc] at this
  cases this
theorem rows_wide {l n : Nat} {P : Program} {row : String} {args : Array Value} {w : World} {R : Value → World → Prop} (h : Rows P row args w R) : RowsIn (Fence.wide.inRound l) n P row args w R := by
  intro c cs _
  obtain ⟨v, w', r, s⟩ := h c cs
  exact ⟨v, w', r, stepsIn_wide.2 s⟩
theorem oper_inRound {P : Program} {l n : Nat} {o : Oper} {a : Act} {w : World} {K : Act → World → Prop} {Q : Exit → Act → World → Prop} (hd : ∀ c, o.op ≠ .defer c) (h : o.wp P a w K Q) :
    o.wpIn (Fence.wide.inRound l) n P a w K Q := by
  refine ⟨fun _ _ => trivial, ?_⟩
  have e : (o.semAt (Fence.wide.inRound l).round a.eval) = execOp a.eval o := Oper.semAt_some l _ o hd
  rw [e]
  unfold Oper.wp at h
  generalize (execOp a.eval o).run P w = r at h ⊢
  cases r with
  | ok x w' =>
    cases x with
    | enter f args => exact ⟨(fun hh => by cases hh), CallsIn.inRound l (callsIn_wide.2 h)⟩
    | row row args => exact ⟨(fun hh => by cases hh), rows_wide h⟩
    | round l1 f tmps assign body => exact h.elim
    | _ => exact h
  | halt x w' => cases x <;> exact h
theorem wpAny_inRound {P : Program} {l n : Nat} {md : Region.Mode} {ops : Array Oper} {Q : Exit → Act → World → Prop} (hd : noDefer ops = true) (hQ : ¬ LetsOut Q) :
    ∀ (fuel : Nat) (listed : Array Bool) (a : Act) (w : World), wpAny P md ops Q fuel listed a w → wpAnyIn (Fence.wide.inRound l) n P md ops Q fuel listed a w
  | 0, _, _, _, h => h
  | fuel + 1, listed, a, w, h => by
    refine ⟨h.1, fun i hi => ?_⟩
    have h1 := h.2 i hi
    unfold wpOp at h1
    unfold wpOpIn
    cases ho : ops[i]? with
    | none => rw [ho] at h1; exact wpAny_inRound hd hQ fuel _ a w h1
    | some o =>
      rw [ho] at h1
      simp only at h1 ⊢
      split
      · rename_i hw
        rw [if_pos hw] at h1
        exact oper_inRound (noDefer_at hd ho) (Oper.wp_mono (fun a w => wpAny_inRound hd hQ fuel _ a w) (h1.resolve_right (fun hh => hQ hh.2)))
      · rename_i hw
        rw [if_neg hw] at h1
        exact ⟨fun _ _ => trivial, wpAny_inRound hd hQ fuel _ _ w h1⟩
theorem wpAny_still_tail {P : Program} {Q : Exit → Act → World → Prop} {a : Act} {w : World} {l : List Oper} (n : Nat) (hB : Region.lexTailB .any l.toArray n = true)
    (h : wpStill P l.toArray w (fun a' => wpList P l.toArray Q (l.drop n) a' w) (l.take n) a) : wpAny P .any l.toArray Q l.toArray.size (Array.replicate l.toArray.size false) a w := by
  simp only [Region.lexTailB, Bool.and_eq_true, decide_eq_true_eq] at hB
  obtain ⟨⟨⟨⟨hsel, hn⟩, hs⟩, hc⟩, hlex⟩ := hB
  have hn' : n < l.length := by simpa using hn
  have htl : (l.take n).length = n := by simp; omega
  have hdl : (l.drop n).length = l.toArray.size - n := by simp
  have inv0 : HeadInv .any l.toArray n (Array.replicate l.toArray.size false) :=
    ⟨by simp, fun j oj _ hl => (by rw [getD_replicate_false] at hl; cases hl), fun t _ ht => getD_in (by simpa using ht) (getD_replicate_false _ _)⟩
  have H := wpAnyL_lex (md := .any) (g := l.toArray.size - n) hsel hs hc hn (l.take n) 0 _ a (fun j hj => by
    have hj' : j < n := by rw [htl] at hj; exact hj
    simp [hj']) (by simpa using htl) inv0 (by rw [htl]; exact hlex) h
  have := wpAny_of_head (Q' := Q) (g := l.toArray.size - n) (fun listed a' hL => by
    have := wpAny_of_seq (md := .any) (Q' := Q) (l.drop n) n listed a' w (fun j => by simp [List.getElem?_drop]) (by rw [hdl]; exact hL.1) hL.2
    rwa [hdl] at this) _ _ _ H
  rw [htl, show n + (l.toArray.size - n) = l.toArray.size by omega] at this
  exact this
theorem wpIn_region_still_tail {P : Program} {l0 m id : Nat} {Q : Exit → Act → World → Prop} {a : Act} {w : World} {l : List Oper} (n : Nat) (hm : P.follows .mixedOrders = true) (hd : noDefer l.toArray = true) (hQ : ¬ LetsOut Q) (hB : Region.lexTailB .any l.toArray n = true)
    (h : wpStill P l.toArray w.drew (fun a' => wpList P l.toArray Q (l.drop n) a' w.drew) (l.take n) a) : (Code.region id l.toArray true).wpIn (Fence.wide.inRound l0) m P Q a w :=
  wpIn_region_any hm (wpAny_inRound hd hQ _ _ _ _ (wpAny_still_tail n hB h))
end Go.Proofs.YtogchafnnkajfaaGreat
namespace Go.Proofs.YtogchafnnkajfaaGreat
set_option linter.unusedVariables false
open Go
section
variable {P : Program} {md : Region.Mode} {ops : Array Oper} {Q : Exit → Act → World → Prop} {S : World → Prop} {n : Nat}
def wpAnyT (P : Program) (md : Region.Mode) (ops : Array Oper) (Q : Exit → Act → World → Prop) (S : World → Prop) (n : Nat) : Nat → Array Bool → Act → World → Prop
  | 0, listed, a, w => Region.ready md ops listed = [] ∧ Q .normal a w
  | f + 1, listed, a, w => (Region.ready md ops listed = [] → Q .normal a w) ∧
    ∀ i ∈ Region.ready md ops listed, wpOp P ops Q i (fun a' w' => (i < n → S w') ∧ wpAnyT P md ops Q S n f (listed.setIfInBounds i true) a' w') a w
theorem wpAny_of_T : ∀ (f : Nat) (listed : Array Bool) (a : Act) (w : World), wpAnyT P md ops Q S n f listed a w → wpAny P md ops Q f listed a w
  | 0, _, _, _, h => h
  | f + 1, _, _, _, h => ⟨h.1, fun i hi => wpOp_mono (fun a' w' h' => wpAny_of_T f _ a' w' h'.2) (h.2 i hi)⟩
theorem wpAnyT_first {i : Nat} {oi : Oper} {v : Value} (hi : ops[i]? = some oi) (hsel : ∀ (j : Nat) (o : Oper) cs b, ops[j]? = some o → o.op ≠ .select cs b)
    (hs : Region.sinkB md ops n = true) (hc : Region.chainB md ops n = true) (hn : n < ops.size) (hin : i < n)
    (hQ : ∀ c a w, Q (.panic c) (a.put oi.dst v) w → Q (.panic c) a w) :
    ∀ (f : Nat) (listed : Array Bool) (a : Act) (w : World), HeadInv md ops n listed →
      (∀ j oj, ops[j]? = some oj → j ≠ i → listed.getD j true = false → (∀ e ∈ oj.after, Region.binds md e = true → e.on ≠ i) → oi.apart ops oj = true) →
      i ∈ Region.ready md ops listed → YieldsIf P ops S oi v a → S w →
      wpAnyT P md ops Q S n f (listed.setIfInBounds i true) (a.put oi.dst v) w → wpAnyT P md ops Q S n (f + 1) listed a w := by
  intro f
  induction f with
  | zero =>
    intro listed a w inv _ hr hy hS H
    refine ⟨fun h => (by rw [h] at hr; cases hr), fun j hj => ?_⟩
    by_cases hji : j = i
    · subst hji; exact hy.wpOp hi hS ⟨fun _ => hS, H⟩
    · have := ready_mono hj hji
      rw [H.1] at this
      cases this
  | succ f ih =>
    intro listed a w inv hfree hr hy hS H
    have hun := (mem_ready.1 hr).1
    refine ⟨fun h => (by rw [h] at hr; cases hr), fun j hj => ?_⟩
    have hjn : j < n := by
      rcases Nat.lt_or_ge j n with h | h
      · exact h
      · exact absurd hj (tail_waits hs hc hn inv _ i rfl hin hun j h)
    by_cases hji : j = i
    · subst hji; exact hy.wpOp hi hS ⟨fun _ => hS, H⟩
    · have h1 := H.2 j (ready_mono hj hji)
      obtain ⟨hjun, oj, hoj, hall⟩ := mem_ready.1 hj
      have hnot : ∀ e ∈ oj.after, Region.binds md e = true → e.on ≠ i := fun e he hb heq => by
        have h1 := hall e he hb
        rw [heq, getD_both hun] at h1
        cases h1
      have h2 := wpOp_putIf hoj (hfree j oj hoj hji hjun hnot) (fun cs b => hsel i oi cs b hi) (fun cs b => hsel j oj cs b hoj) hQ hy h1
      have hfree' : ∀ k ok, ops[k]? = some ok → k ≠ i → (listed.setIfInBounds j true).getD k true = false →
          (∀ e ∈ ok.after, Region.binds md e = true → e.on ≠ i) → oi.apart ops ok = true := fun k ok hk hki hun hno => by
        refine hfree k ok hk hki ?_ hno
        by_cases hjk : j = k
        · subst hjk; exact hjun
        · rw [getD_set_ne true hjk] at hun; exact hun
      refine wpOp_mono (fun a' w' h3 => ⟨h3.2.1, ih (listed.setIfInBounds j true) a' w' (inv.set hj hjn) hfree' (ready_mono hr (Ne.symm hji)) h3.1 (h3.2.1 hjn) ?_⟩) h2
      rw [Array.setIfInBounds_comm _ _ hji]
      exact h3.2.2
def wpHeadS (P : Program) (ops : Array Oper) (Q : Exit → Act → World → Prop) (S : World → Prop) (T : Act → Prop) : List Oper → Act → Prop
  | [], a => T a
  | o :: l, a => ∃ v, YieldsIf P ops S o v a ∧ (∀ c a w, Q (.panic c) (a.put o.dst v) w → Q (.panic c) a w) ∧ wpHeadS P ops Q S T l (a.put o.dst v)
def wpSeqT (P : Program) (ops : Array Oper) (Q : Exit → Act → World → Prop) (S : World → Prop) (n : Nat) : Nat → List Oper → Act → World → Prop
  | _, [], a, w => Q .normal a w
  | k, o :: l, a, w => if Region.wanted o (yielded ops a.tmps) = true then o.wp P a w (fun a' w' => (k < n → S w') ∧ wpSeqT P ops Q S n (k + 1) l a' w') Q ∨ (o.asks P a w ∧ LetsOut Q) else (k < n → S w) ∧ wpSeqT P ops Q S n (k + 1) l (a.put o.dst undef) w
theorem wpSeqT_list : ∀ (l : List Oper) (k : Nat) (a : Act) (w : World), n ≤ k → wpList P ops Q l a w → wpSeqT P ops Q S n k l a w
  | [], _, _, _, _, h => h
  | o :: l, k, a, w, hk, h => by
    unfold wpSeqT
    unfold wpList at h
    split
    · rename_i hw
      rw [if_pos hw] at h
      exact h.imp (Oper.wp_mono (fun a' w' h' => ⟨fun hh => absurd hh (by omega), wpSeqT_list l (k + 1) a' w' (by omega) h'⟩)) id
    · rename_i hw
      rw [if_neg hw] at h
      exact ⟨fun hh => absurd hh (by omega), wpSeqT_list l (k + 1) _ w (by omega) h⟩
theorem wpSeqT_step {k : Nat} {o : Oper} {l : List Oper} {a : Act} {w : World}
    (h : ∀ K : Act → World → Prop, (∀ a w, (k < n → S w) → wpSeqT P ops Q S n (k + 1) l a w → K a w) → if Region.wanted o (yielded ops a.tmps) = true then o.wp P a w K Q else K (a.put o.dst undef) w) : wpSeqT P ops Q S n k (o :: l) a w := by
  have := h (fun a w => (k < n → S w) ∧ wpSeqT P ops Q S n (k + 1) l a w) (fun a w h1 h2 => ⟨h1, h2⟩)
  unfold wpSeqT
  split
  · rename_i hw; rw [if_pos hw] at this; exact .inl this
  · rename_i hw; rw [if_neg hw] at this; exact this
theorem wpAnyT_of_seq : ∀ (l : List Oper) (k : Nat) (listed : Array Bool) (a : Act) (w : World), (∀ j, l[j]? = ops[k + j]?) →
    Region.seqB md ops l.length k listed = true → wpSeqT P ops Q S n k l a w → wpAnyT P md ops Q S n l.length listed a w
  | [], _, _, _, _, _, hB, h => ⟨by simpa [Region.seqB] using hB, h⟩
  | o :: l, k, listed, a, w, hl, hB, h => by
    have h0 : ops[k]? = some o := by simpa using (hl 0).symm
    simp only [List.length_cons, Region.seqB, Bool.and_eq_true, decide_eq_true_eq] at hB
    refine ⟨fun h1 => (by rw [hB.1] at h1; cases h1), fun i hi => ?_⟩
    rw [hB.1] at hi
    have hik : i = k := by simpa using hi
    subst hik
    unfold wpOp
    simp only [h0]
    unfold wpSeqT at h
    have next : ∀ a' w', wpSeqT P ops Q S n (i + 1) l a' w' → wpAnyT P md ops Q S n l.length (listed.setIfInBounds i true) a' w' := fun a' w' h' =>
      wpAnyT_of_seq l (i + 1) _ a' w' (fun j => by have := hl (j + 1); simpa [Nat.add_assoc, Nat.add_comm 1 j] using this) hB.2 h'
    split
    · rename_i hw
      rw [if_pos hw] at h
      exact h.imp (Oper.wp_mono (fun a' w' h' => ⟨h'.1, next a' w' h'.2⟩)) id
    · rename_i hw
      rw [if_neg hw] at h
      exact ⟨h.1, next _ _ h.2⟩
theorem wpAnyT_lex {h g : Nat} {T : Act → Prop} {w : World} (hsel : Region.noSelect ops = true) (hs : Region.sinkB md ops n = true) (hc : Region.chainB md ops n = true) (hn : n < ops.size) (hh : h ≤ n) (hS : S w)
    (hT : ∀ listed a, Region.seqB md ops g h listed = true → T a → wpAnyT P md ops Q S n g listed a w) :
    ∀ (l : List Oper) (k : Nat) (listed : Array Bool) (a : Act), (∀ j, j < l.length → l[j]? = ops[k + j]?) → k + l.length = h → HeadInv md ops n listed →
    Region.lexHead md ops g l.length k listed = true → wpHeadS P ops Q S T l a → wpAnyT P md ops Q S n (l.length + g) listed a w
  | [], k, listed, a, _, hk, _, hB, hw => by
    have : k = h := by simpa using hk
    subst this
    simp only [List.length_nil, Nat.zero_add]
    exact hT listed a (by simpa [Region.lexHead] using hB) hw
  | o :: l, k, listed, a, hl, hk, inv, hB, hw => by
    have h0 : ops[k]? = some o := by simpa using (hl 0 (by simp)).symm
    simp only [List.length_cons, Region.lexHead, Bool.and_eq_true] at hB
    obtain ⟨⟨hr, hf⟩, hB'⟩ := hB
    have hkn : k < n := by simp only [List.length_cons] at hk; omega
    have hr' : k ∈ Region.ready md ops listed := by simpa using hr
    obtain ⟨v, hy, hQ, hK⟩ := hw
    have := wpAnyT_first h0 (Region.noSelect_spec hsel) hs hc hn hkn hQ (l.length + g) listed a w inv (Region.free_spec h0 hf) hr' hy hS
      (wpAnyT_lex hsel hs hc hn hh hS hT l (k + 1) _ _ (fun j hj => by have := hl (j + 1) (by simp; omega); simpa [Nat.add_assoc, Nat.add_comm 1 j] using this) (by simp only [List.length_cons] at hk; omega) (inv.set hr' hkn) hB' hK)
    rw [List.length_cons, show l.length + 1 + g = l.length + g + 1 by omega]
    exact this
def mixB (ops : Array Oper) (h n : Nat) : Bool :=
  Region.noSelect ops && decide (n < ops.size) && decide (h ≤ n) && Region.sinkB .any ops n && Region.chainB .any ops n && Region.lexHead .any ops (ops.size - h) h 0 (Array.replicate ops.size false)
theorem wpAny_mix {a : Act} {w : World} {l : List Oper} (h n : Nat) (hB : mixB l.toArray h n = true) (S : World → Prop) (hS : S w)
    (hw : wpHeadS P l.toArray Q S (fun a' => wpSeqT P l.toArray Q S n h (l.drop h) a' w) (l.take h) a) : wpAny P .any l.toArray Q l.toArray.size (Array.replicate l.toArray.size false) a w := by
  simp only [mixB, Bool.and_eq_true, decide_eq_true_eq] at hB
  obtain ⟨⟨⟨⟨⟨hsel, hn⟩, hh⟩, hs⟩, hc⟩, hlex⟩ := hB
  have hn' : n < l.length := by simpa using hn
  have htl : (l.take h).length = h := by simp; omega
  have hdl : (l.drop h).length = l.toArray.size - h := by simp
  have inv0 : HeadInv .any l.toArray n (Array.replicate l.toArray.size false) :=
    ⟨by simp, fun j oj _ hl => (by rw [getD_replicate_false] at hl; cases hl), fun t _ ht => getD_in (by simpa using ht) (getD_replicate_false _ _)⟩
  have H := wpAnyT_lex (md := .any) (g := l.toArray.size - h) (n := n) (T := fun a' => wpSeqT P l.toArray Q S n h (l.drop h) a' w) (w := w) hsel hs hc hn hh hS
    (fun listed a' hq ht => by
      have := wpAnyT_of_seq (md := .any) (l.drop h) h listed a' w (fun j => by simp [List.getElem?_drop]) (by rw [hdl]; exact hq) ht
      rwa [hdl] at this) (l.take h) 0 _ a (fun j hj => by
    have hj' : j < h := by rw [htl] at hj; exact hj
    simp [hj']) (by simpa using htl) inv0 (by rw [htl]; exact hlex) hw
  rw [htl, show h + (l.toArray.size - h) = l.toArray.size by simp; omega] at H
  exact wpAny_of_T _ _ _ _ H
theorem wpIn_region_mix {l0 m id : Nat} {a : Act} {w : World} {l : List Oper} (h n : Nat) (hm : P.follows .mixedOrders = true) (hd : noDefer l.toArray = true) (hQ : ¬ LetsOut Q) (hB : mixB l.toArray h n = true) (S : World → Prop) (hS : S w.drew)
    (hw : wpHeadS P l.toArray Q S (fun a' => wpSeqT P l.toArray Q S n h (l.drop h) a' w.drew) (l.take h) a) : (Code.region id l.toArray true).wpIn (Fence.wide.inRound l0) m P Q a w :=
  wpIn_region_any hm (wpAny_inRound hd hQ _ _ _ _ (wpAny_mix h n hB S hS hw))
theorem wp_region_mix {id : Nat} {a : Act} {w : World} {l : List Oper} (h n : Nat) (hm : P.follows .mixedOrders = true) (hB : mixB l.toArray h n = true) (S : World → Prop) (hS : S w.drew)
    (hw : wpHeadS P l.toArray Q S (fun a' => wpSeqT P l.toArray Q S n h (l.drop h) a' w.drew) (l.take h) a) : (Code.region id l.toArray true).wp P Q a w :=
  wp_region_any hm (wpAny_mix h n hB S hS hw)
end
end Go.Proofs.YtogchafnnkajfaaGreat
namespace Go.Proofs.YtogchafnnkajfaaGreat
set_option linter.unusedVariables false
open Go.RowKit Go.Shelf
attribute [local go_sem] Oper.semAt_some
structure Fld where
  at_ : Nat
  mask : Nat
  hat : at_ ≤ 64
  hmask : mask < 18446744073709551616
abbrev encF (x : Fld) : Array Value := #[.int .i64 (x.at_ : Int), .int .u64 (x.mask : Int)]
theorem mask_lt (x : Int) (h : x ≤ 64) : maskOf x < 18446744073709551616 := by
  unfold maskOf
  have : 2 ^ x.toNat ≤ 2 ^ 64 := Nat.pow_le_pow_right (by omega) (by omega)
  have : 0 < 2 ^ x.toNat := Nat.pow_pos (by omega)
  omega
theorem mask_nat : ∀ k : Fin 65, 18446744073709551615 / 2 ^ (64 - k.val) = 2 ^ k.val - 1 := by decide
theorem mask_int (x : Int) (h1 : 1 ≤ x) (h2 : x ≤ 64) : ((maskOf x : Nat) : Int) = 18446744073709551615 / 2 ^ (64 - x).toNat := by
  have h := mask_nat ⟨x.toNat, by omega⟩
  have e : (64 - x).toNat = 64 - x.toNat := by omega
  rw [e, cast_two_pow]
  unfold maskOf
  rw [← h]
  rfl
def fldOf (ws : List Int) (k : Nat) : Fld :=
  ⟨min (fldAt ws k) 64, min (maskOf (ws[k]?.getD 0)) 18446744073709551615, by omega, by omega⟩
set_option maxRecDepth 100000 in
set_option maxHeartbeats 1000000 in
theorem fields1_in (F : Fence) (n : Nat) (h35 : F.fn 155) (hro : F.round = none) (hn : 1 ≤ n) (l Bs n₀ : Nat) (A : Option Addr) (cap : Nat) (ws : List Int) (hok : okW 0 ws = true)
    (hlen : ws.length ≤ 1000000) (J Jx : List Fld → World → Prop)
    (hY : ∀ pre x W, J pre W → pre.length < ws.length → YieldAt F (n - 1) Tryz.prog l (encF x) W fun e W' =>
      (e = .returned (.bool true) ∧ J (pre ++ [x]) W' ∧ KeepB n₀ Bs W W') ∨ (e = .returned (.bool false) ∧ Jx (pre ++ [x]) W'))
    (W : World) (hBs : W.cell? ⟨Bs, 0, none⟩ = some (.slice A ws.length cap))
    (hA : ∀ i, i < ws.length → ∃ b off, A = some ⟨b, off, none⟩ ∧ b < n₀ ∧ W.cell? ⟨b, off + i, none⟩ = some (.int .i64 (ws[i]?.getD 0))) (h0 : J [] W) :
    CallsIn F n Tryz.prog 155 #[.func (.yield l) #[] #[], .pointer (some ⟨Bs, 0, none⟩)] W fun e W' => (∃ v, e = .returned v) ∧
      ((∃ ys, ys = upto (fldOf ws) ws.length ∧ J ys W') ∨ (∃ pre, (∃ k, k ≤ ws.length ∧ pre = upto (fldOf ws) k) ∧ Jx pre W')) := by
  obtain ⟨m, hm⟩ : ∃ m, ws.length = m := ⟨_, rfl⟩
  have HM := Lib.hid hm
  rw [hm] at hlen hBs hA hY ⊢
  clear hm
  have HA := Lib.hid hA
  have HOK := Lib.hid hok
  clear hA hok
  refine callsIn_of_wp Tryz.func155 rfl h35 ?_ hro
  simp only [Tryz.ntmps155, List.size_toArray, List.length_cons, List.length_nil, Nat.reduceAdd, Nat.reduceSub, Array.replicate_succ, Array.replicate_zero, List.push_toArray, List.append_toArray, List.nil_append, List.cons_append]
  gi_wp2
  gi_loopw [3, 8] (fun s i wr => ∃ (k : Nat) (t : Int), k ≤ m ∧ i = .int .i64 k ∧ s = .int .i64 t ∧ 0 ≤ t ∧ t ≤ 64 ∧ Hid (t = (ws.take k).sum) ∧ J (upto (fldOf ws) k) wr ∧ KeepB n₀ Bs W wr)
    (fun _ i _ => m - (intOf i).toNat)
  case atStart => exact ⟨0, 0, Nat.zero_le _, rfl, rfl, by omega, by omega, by show _ = _; simp, h0, KeepB.refl _ _ _⟩
  case round =>
    obtain ⟨k, t, hk, rfl, rfl, ht0, ht1, hs, hJs, hnx⟩ := hrel
    by_cases hlt : k < m
    · obtain ⟨b, off, rfl, hb, hc1⟩ := HA.out k hlt
      have hc2 := (hnx.below.cell (p := ⟨b, off + k, none⟩) hb).trans hc1
      have hx := okW_at 0 ws k HOK.out (by rw [HM.out]; exact hlt)
      have hts := sum_take_succ ws k (by rw [HM.out]; exact hlt)
      obtain ⟨x, ex⟩ : ∃ x, ws[k]?.getD 0 = x := ⟨_, rfl⟩
      rw [← hs.out, ex] at hx
      rw [← hs.out, ex] at hts
      rw [ex] at hc2
      obtain ⟨fn, tmps, assign, body, hy, hR⟩ := hY _ (fldOf ws k) wr hJs (by rw [upto_length]; exact hlt)
      have e1 : ((fldOf ws k).at_ : Int) = t := by
        show ((min (fldAt ws k) 64 : Nat) : Int) = t
        unfold fldAt
        rw [← hs.out]
        omega
      have e2 : ((fldOf ws k).mask : Int) = 18446744073709551615 / 2 ^ (64 - x).toNat := by
        rw [← mask_int x (by omega) (by omega)]
        show ((min (maskOf (ws[k]?.getD 0)) _ : Nat) : Int) = _
        rw [ex]
        have := mask_lt x (by omega)
        omega
      have hy' : _ := hy
      simp only [encF, e1, e2] at hy'
      clear hy ex hc1
      have HT := Lib.hid hts
      clear hts e1 e2
      gi_wp2
      refine hR.mono ?_
      rintro e W3 (⟨rfl, hJ3, hk3⟩ | ⟨rfl, hJx3⟩)
      · gi_wp2
        go_roundw
        case rel => exact ⟨k + 1, t + x, by omega, by simp, rfl, by omega, by omega, HT.out.symm, by rw [upto_succ]; exact hJ3, hnx.trans hk3⟩
        case measure => simp [intOf]; omega
      · gi_wp2
        refine bodyPost_ret (results_none rfl _ _ _) rfl ?_
        exact ⟨⟨_, rfl⟩, .inr ⟨_, ⟨k + 1, by omega, (upto_succ _ _).symm⟩, hJx3⟩⟩
    · obtain rfl : k = m := by omega
      gi_wp2
      go_end0
      exact ⟨⟨_, rfl⟩, .inl ⟨_, rfl, hJs⟩⟩
set_option maxHeartbeats 1000000 in
theorem fields_in (F : Fence) (n : Nat) (h31 : F.fn 143) (hro : F.round = none) (a : Option Addr) (len cap : Nat) (w : World) :
    CallsIn F n Tryz.prog 143 #[.slice a len cap] w fun e w' => e = .returned (.func (.func 155) #[] #[.pointer (some ⟨w.heap.size, 0, none⟩)]) ∧ w.alloc (.cells #[.slice a len cap] 22) = w' := by
  refine callsIn_of_wp Tryz.func143 rfl h31 ?_ hro
  simp only [Tryz.ntmps143, List.size_toArray, List.length_cons, List.length_nil, Nat.reduceAdd, Nat.reduceSub, Array.replicate_succ, Array.replicate_zero, List.push_toArray, List.append_toArray, List.nil_append, List.cons_append]
  gi_wp2
  go_ret
  exact ⟨rfl, rfl⟩
theorem fields_stops (F : Fence) (n : Nat) (h35 : F.fn 155) (hro : F.round = none) (hn : 1 ≤ n) (Bs n₀ : Nat) (A : Option Addr) (cap : Nat) (ws : List Int) (hok : okW 0 ws = true)
    (hlen : ws.length ≤ 1000000) (w : World) (hBs : Bs < w.heap.size) (hn₀ : n₀ ≤ w.heap.size)
    (hc : w.cell? ⟨Bs, 0, none⟩ = some (.slice A ws.length cap))
    (hA : ∀ i, i < ws.length → ∃ b off, A = some ⟨b, off, none⟩ ∧ b < n₀ ∧ w.cell? ⟨b, off + i, none⟩ = some (.int .i64 (ws[i]?.getD 0))) :
    SeqStopsK F n Tryz.prog 155 #[.pointer (some ⟨Bs, 0, none⟩)] encF (KeepB n₀ Bs) (fun ys => ys = upto (fldOf ws) ws.length)
      (fun pre => ∃ k, k ≤ ws.length ∧ pre = upto (fldOf ws) k) ws.length w := fun l J Jx W hW _ _ hY h0 =>
  fields1_in F n h35 hro hn l Bs n₀ A cap ws hok hlen J Jx hY W ((hW.cell (p := ⟨Bs, 0, none⟩) (by show Bs < _; omega)).trans hc) (fun i hi => by
    obtain ⟨b, off, e, hb, h⟩ := hA i hi
    exact ⟨b, off, e, hb, (hW.cell (p := ⟨b, off + i, none⟩) (by show b < _; omega)).trans h⟩) h0
def fitsF (pre : List Fld) (vs : List Nat) : Prop := ∀ k, k < pre.length → ∀ f, pre[k]? = some f → vs[k]?.getD 0 ≤ f.mask
def wordF : List Fld → List Nat → Nat
  | [], _ => 0
  | f :: pre, vs => (((vs[0]?.getD 0) <<< f.at_) % 18446744073709551616) ||| wordF pre vs.tail
theorem wordF_lt (pre : List Fld) (vs : List Nat) : wordF pre vs < 18446744073709551616 := by
  induction pre generalizing vs with
  | nil => simp [wordF]
  | cons f pre ih => exact or_lt (Nat.mod_lt _ (by omega)) (ih _)
theorem wordF_snoc (pre : List Fld) (x : Fld) (vs : List Nat) : wordF (pre ++ [x]) vs = wordF pre vs ||| (((vs[pre.length]?.getD 0) <<< x.at_) % 18446744073709551616) := by
  induction pre generalizing vs with
  | nil => simp [wordF]
  | cons f pre ih =>
    have h : vs.tail[pre.length]?.getD 0 = vs[pre.length + 1]?.getD 0 := by simp
    simp only [List.cons_append, wordF, ih, List.length_cons, h, Nat.or_assoc]
theorem fitsF_snoc (pre : List Fld) (x : Fld) (vs : List Nat) (h : fitsF pre vs) (hx : vs[pre.length]?.getD 0 ≤ x.mask) : fitsF (pre ++ [x]) vs := by
  intro k hk f hf
  rcases Nat.lt_or_ge k pre.length with h1 | h1
  · rw [List.getElem?_append_left h1] at hf
    exact h k h1 f hf
  · have : k = pre.length := by simp at hk; omega
    subst this
    simp at hf
    subst hf
    exact hx
set_option maxRecDepth 100000 in
set_option maxHeartbeats 1000000 in
theorem fields_ok (A B : Option Addr) (c d : Nat) (ws : List Int) (vs : List Nat) (w : World) (hA : Reads w A (iv ws)) (hB : Reads w B (uv vs)) (hl : ws.length = vs.length) (hlen : ws.length ≤ 1000000) (hok : okW 0 ws = true) (hw : W64 vs) :
    Calls Tryz.prog 145 #[.slice A ws.length c, .slice B vs.length d] w fun e w' => Below w.heap.size w w' ∧
      ((e = .returned (.tuple #[.int .u64 ((wordF (upto (fldOf ws) ws.length) vs : Nat) : Int), .int .i64 0]) ∧ fitsF (upto (fldOf ws) ws.length) vs) ∨
       (e = .returned (.tuple #[.int .u64 0, .int .i64 1]) ∧ ¬ fitsF (upto (fldOf ws) ws.length) vs)) := by
  refine (callsIn_wide (n := 6)).1 ?_
  obtain ⟨m, hm⟩ : ∃ m, ws.length = m := ⟨_, rfl⟩
  have Hd := Lib.hid (fun W hA => divided_any A c ws W hA hlen)
  have hcv : ∀ i, i < m → ∃ b off, B = some ⟨b, off, none⟩ ∧ b < w.heap.size ∧ w.cell? ⟨b, off + i, none⟩ = some (.int .u64 ((vs[i]?.getD 0 : Nat) : Int)) := by
    intro i hi
    obtain ⟨b, off, e, hb, hc⟩ := hB.u (by omega)
    exact ⟨b, off, e, hb, hc i (by omega)⟩
  have hci : ∀ i, i < m → ∃ b off, A = some ⟨b, off, none⟩ ∧ b < w.heap.size ∧ w.cell? ⟨b, off + i, none⟩ = some (.int .i64 (ws[i]?.getD 0)) := by
    intro i hi
    obtain ⟨b, off, e, hb, hc⟩ := hA.i (by omega)
    exact ⟨b, off, e, hb, hc i (by omega)⟩
  rw [← hl, hm]
  rw [hm, hok] at Hd
  rw [hm] at hlen
  have HM := Lib.hid hm
  have HL := Lib.hid hl
  have HV := Lib.hid hcv
  have HI := Lib.hid hci
  have HOK := Lib.hid hok
  have HA := Lib.hid hA
  clear hm hl hcv hci hok hB hA
  refine callsIn_of_wp_marks Tryz.func145 rfl trivial ?_ rfl
  simp only [Tryz.ntmps145, List.size_toArray, List.length_cons, List.length_nil, Nat.reduceAdd, Nat.reduceSub, Array.replicate_succ, Array.replicate_zero, List.push_toArray, List.append_toArray, List.nil_append, List.cons_append]
  gi_wp2_with fail
  refine ⟨trivial, ?_⟩
  refine (callsIn_wide.2 (Hd.out _ (HA.out.keep ((((Below.refl _ w).alloc (Nat.le_refl _) _).alloc (by simp) _).alloc (by simp; omega) _)))).mono ?_
  rintro e w' ⟨rfl, rfl⟩
  gi_wp2_with fail
  refine ⟨trivial, ?_⟩
  refine (fields_in Fence.wide 5 trivial rfl _ _ _ _).mono ?_
  rintro e w' ⟨rfl, rfl⟩
  gi_wp2_with fail
  have b0 := ((((((Boxed.new w 29 (.slice B m d)).alloc (.cells #[.int .u64 0] 26)).alloc (.cells #[.int .i64 0] 47)).alloc (.cells #[.int .u64 0] 26)).alloc (.cells #[.int .i64 0] 3)).alloc (.cells #[.slice A m c] 22))
  have b1 := (((((Boxed.new (w.alloc (.cells #[.slice B m d] 29)) 26 (.int .u64 0)).alloc (.cells #[.int .i64 0] 47)).alloc (.cells #[.int .u64 0] 26)).alloc (.cells #[.int .i64 0] 3)).alloc (.cells #[.slice A m c] 22))
  have b2 := ((((Boxed.new ((w.alloc (.cells #[.slice B m d] 29)).alloc (.cells #[.int .u64 0] 26)) 47 (.int .i64 0)).alloc (.cells #[.int .u64 0] 26)).alloc (.cells #[.int .i64 0] 3)).alloc (.cells #[.slice A m c] 22))
  have b3 := (((Boxed.new (((w.alloc (.cells #[.slice B m d] 29)).alloc (.cells #[.int .u64 0] 26)).alloc (.cells #[.int .i64 0] 47)) 26 (.int .u64 0)).alloc (.cells #[.int .i64 0] 3)).alloc (.cells #[.slice A m c] 22))
  have b4 := ((Boxed.new ((((w.alloc (.cells #[.slice B m d] 29)).alloc (.cells #[.int .u64 0] 26)).alloc (.cells #[.int .i64 0] 47)).alloc (.cells #[.int .u64 0] 26)) 3 (.int .i64 0)).alloc (.cells #[.slice A m c] 22))
  have b5 := (Boxed.new (((((w.alloc (.cells #[.slice B m d] 29)).alloc (.cells #[.int .u64 0] 26)).alloc (.cells #[.int .i64 0] 47)).alloc (.cells #[.int .u64 0] 26)).alloc (.cells #[.int .i64 0] 3)) 22 (.slice A m c))
  have hb : Below w.heap.size w ((((((w.alloc (.cells #[.slice B m d] 29)).alloc (.cells #[.int .u64 0] 26)).alloc (.cells #[.int .i64 0] 47)).alloc (.cells #[.int .u64 0] 26)).alloc (.cells #[.int .i64 0] 3)).alloc (.cells #[.slice A m c] 22)) :=
    ((((((Below.refl _ w).alloc (Nat.le_refl _) _).alloc (by simp) _).alloc (by simp; omega) _).alloc (by simp; omega) _).alloc (by simp; omega) _).alloc (by simp; omega) _
  simp only [World.size_alloc] at b0 b1 b2 b3 b4 b5
  obtain ⟨W0, hW0⟩ : ∃ W0, ((((((w.alloc (.cells #[.slice B m d] 29)).alloc (.cells #[.int .u64 0] 26)).alloc (.cells #[.int .i64 0] 47)).alloc (.cells #[.int .u64 0] 26)).alloc (.cells #[.int .i64 0] 3)).alloc (.cells #[.slice A m c] 22)) = W0 := ⟨_, rfl⟩
  have hsz : W0.heap.size = w.heap.size + 1 + 1 + 1 + 1 + 1 + 1 := by rw [← hW0]; simp
  rw [hW0] at b0 b1 b2 b3 b4 b5 hb ⊢
  clear hW0
  have HS := Lib.hid hsz
  refine wpIn_rangeFunc_ownG rfl (by omega) (gf := 155) (lb := #[.pointer (some ⟨w.heap.size + 1 + 1 + 1 + 1 + 1, 0, none⟩)]) rfl trivial (enters_of Tryz.func155 (by kernel_rfl) rfl)
    (fields_stops Fence.wide 5 trivial rfl (by omega) (w.heap.size + 1 + 1 + 1 + 1 + 1) w.heap.size A c ws HOK.out (by rw [HM.out]; exact hlen) W0 (by omega) (by omega) (by rw [HM.out]; exact b5.cell)
      (fun i hi => by
        obtain ⟨b, off, e, hlt, h⟩ := HI.out i (by rw [← HM.out]; exact hi)
        exact ⟨b, off, e, hlt, (hb.cell (p := ⟨b, off + i, none⟩) hlt).trans h⟩))
    KeepB.trans (KeepB.putObj (by omega) (by omega)) (Below.refl _ _) (fun _ => rfl)
    (fun pre W => (fitsF pre vs ∧ Boxed W w.heap.size 29 (.slice B m d) ∧ Boxed W (w.heap.size + 1) 26 (.int .u64 0) ∧ Boxed W (w.heap.size + 1 + 1) 47 (.int .i64 0) ∧
      Boxed W (w.heap.size + 1 + 1 + 1) 26 (.int .u64 ((wordF pre vs : Nat) : Int)) ∧ Boxed W (w.heap.size + 1 + 1 + 1 + 1) 3 (.int .i64 (pre.length : Int))) ∧ Below w.heap.size w W)
    (fun c pre W => (c = .ret ∧ (∃ (ini : List Fld) (last : Fld), pre = ini ++ [last] ∧ last.mask < vs[ini.length]?.getD 0) ∧ Boxed W (w.heap.size + 1) 26 (.int .u64 0) ∧ Boxed W (w.heap.size + 1 + 1) 47 (.int .i64 1)) ∧ Below w.heap.size w W)
    (OwnFrom.and (Own.from (fun s A B row hs hg hr => ⟨hs.1, boxed_own _ _ (fun _ => _) s A B row hs.2.1 hg hr, boxed_own _ _ (fun _ => _) s A B row hs.2.2.1 hg hr, boxed_own _ _ (fun _ => _) s A B row hs.2.2.2.1 hg hr, boxed_own _ _ (fun _ => _) s A B row hs.2.2.2.2.1 hg hr, boxed_own _ _ (fun _ => _) s A B row hs.2.2.2.2.2 hg hr⟩) _) (ownFrom_below (Nat.le_refl _) (by omega)))
    (fun c => OwnFrom.and (Own.from (fun s A B row hs hg hr => ⟨hs.1, hs.2.1, boxed_own _ _ (fun _ => _) s A B row hs.2.2.1 hg hr, boxed_own _ _ (fun _ => _) s A B row hs.2.2.2 hg hr⟩) _) (ownFrom_below (Nat.le_refl _) (by omega)))
    ⟨⟨by intro k hk; simp at hk, b0, b1, b2, b3, b4⟩, hb⟩
    (fun x => { tmps := #[.slice A m c, .slice B m d, undef, .pointer (some ⟨w.heap.size, 0, none⟩), .pointer (some ⟨w.heap.size + 1, 0, none⟩), .pointer (some ⟨w.heap.size + 1 + 1, 0, none⟩),
      .pointer (some ⟨w.heap.size + 1 + 1 + 1, 0, none⟩), .pointer (some ⟨w.heap.size + 1 + 1 + 1 + 1, 0, none⟩), .int .i64 (x.at_ : Int), .int .u64 (x.mask : Int), .slice A m c, .int .i64 m, .slice B m d, .int .i64 m, .bool false, .slice A m c,
      .bool true, .bool false, .slice A m c, .func (.func 155) #[] #[.pointer (some ⟨w.heap.size + 1 + 1 + 1 + 1 + 1, 0, none⟩)],
      .int .i64 (x.at_ : Int), .int .u64 (x.mask : Int), undef, undef, undef, undef, undef, undef, undef, undef, undef, undef, undef, undef, undef, undef, undef, undef, undef], defers := [] }) ?assign ?body ?done ?stop
  case assign =>
    intro l x W K hK
    gi_wp2
    exact hK
  case body =>
    rintro l pre x W ⟨⟨hf, c0, c1, c2, c3, c4⟩, hB⟩ hlt
    obtain ⟨b, off, hBe, hbl, hcv⟩ := HV.out pre.length (by rw [← HM.out]; exact hlt)
    have hcv' := (hB.cell (p := ⟨b, off + pre.length, none⟩) hbl).trans hcv
    have hv := hw.at pre.length
    obtain ⟨v, ev⟩ : ∃ v, vs[pre.length]?.getD 0 = v := ⟨_, rfl⟩
    rw [ev] at hcv' hv
    have EV := Lib.hid ev
    have hlt' : pre.length < m := by rw [← HM.out]; exact hlt
    have hat := x.hat
    have hmask := x.hmask
    have hwf := wordF_lt pre vs
    have d0 := c0.cell
    have d1 := c1.cell
    have d1' := c1.frozen
    have d2 := c2.cell
    have d2' := c2.frozen
    have d3 := c3.cell
    have d3' := c3.frozen
    have d4 := c4.cell
    have d4' := c4.frozen
    subst hBe
    clear ev hcv hlt
    by_cases hm : x.mask < v
    · gi_wp2
      refine ⟨((KeepsOthers.setCell _ _ _).trans (KeepsOthers.setCell _ _ _)).from _, ⟨rfl, ⟨pre, x, rfl, by rw [EV.out]; exact hm⟩, (c1.set _).other (by omega) _, (c2.other (by omega) _).set _⟩, ?_⟩
      exact (hB.setCell (p := ⟨w.heap.size + 1, 0, none⟩) (by show _ ≤ _ + 1; omega) _).setCell (p := ⟨w.heap.size + 1 + 1, 0, none⟩) (by show _ ≤ _ + 1 + 1; omega) _
    · gi_wp2
      clear b0 b1 b2 b3 b4 b5 hb hsz HS HI HA HOK Hd hw
      have hmix : Tryz.prog.follows .mixedOrders = true := by kernel_rfl
      refine wpIn_region_still_tail 8 hmix (by kernel_rfl) (by rintro ⟨_, _, h⟩; exact h) (by kernel_rfl) ?_
      simp only [List.take_succ_cons, List.take_zero, List.drop_succ_cons, List.drop_zero]
      repeat still_step
      refine wpStill_nil ?_
      go_wp2
      have hz : bits BinOp.or IntKind.u64 ((wordF pre vs : Nat) : Int) (IntKind.u64.wrap ((v : Int) * 2 ^ x.at_)) = ((wordF (pre ++ [x]) vs : Nat) : Int) := by
        rw [wordF_snoc, EV.out, cast_two_pow, ← Int.natCast_mul, wrap_nat, ← Nat.shiftLeft_eq, u64_or_nat _ _ hwf (Nat.mod_lt _ (by omega))]
      rw [hz]
      have f0 := (c0.other (B' := w.heap.size + 1 + 1 + 1) (by omega) (.int .u64 ((wordF (pre ++ [x]) vs : Nat) : Int)))
      have f1 := (c1.other (B' := w.heap.size + 1 + 1 + 1) (by omega) (.int .u64 ((wordF (pre ++ [x]) vs : Nat) : Int)))
      have f2 := (c2.other (B' := w.heap.size + 1 + 1 + 1) (by omega) (.int .u64 ((wordF (pre ++ [x]) vs : Nat) : Int)))
      have f3 := (c3.set (.int .u64 ((wordF (pre ++ [x]) vs : Nat) : Int)))
      have f4 := (c4.other (B' := w.heap.size + 1 + 1 + 1) (by omega) (.int .u64 ((wordF (pre ++ [x]) vs : Nat) : Int)))
      have hk1 := ((KeepB.refl w.heap.size (w.heap.size + 1 + 1 + 1 + 1 + 1) W).setCell (b := w.heap.size + 1 + 1 + 1) (i := 0) (by omega) (by omega) (.int .u64 ((wordF (pre ++ [x]) vs : Nat) : Int))).drew
      have hko := (KeepsOthers.setCell W ⟨w.heap.size + 1 + 1 + 1, 0, none⟩ (.int .u64 ((wordF (pre ++ [x]) vs : Nat) : Int))).trans (KeepsOthers.drew _)
      have hB1 := (hB.setCell (p := ⟨w.heap.size + 1 + 1 + 1, 0, none⟩) (by show _ ≤ _ + 1 + 1 + 1; omega) (.int .u64 ((wordF (pre ++ [x]) vs : Nat) : Int))).drew
      have g4 : (W.setCell ⟨w.heap.size + 1 + 1 + 1, 0, none⟩ (.int .u64 ((wordF (pre ++ [x]) vs : Nat) : Int))).drew.cell? ⟨w.heap.size + 1 + 1 + 1 + 1, 0, none⟩ = _ := f4.cell
      have g4' : (W.setCell ⟨w.heap.size + 1 + 1 + 1, 0, none⟩ (.int .u64 ((wordF (pre ++ [x]) vs : Nat) : Int))).drew.frozen? ⟨w.heap.size + 1 + 1 + 1 + 1, 0, none⟩ = _ := f4.frozen
      change Boxed (W.setCell _ _).drew _ _ _ at f0 f1 f2 f3 f4
      clear d0 d1 d1' d2 d2' d3 d3' d4 d4' hz hcv' c0 c1 c2 c3 c4
      generalize (W.setCell _ _).drew = W2 at f0 f1 f2 f3 f4 hk1 hko hB1 g4 g4' ⊢
      gi_wp2
      refine ⟨(hko.trans (KeepsOthers.setCell _ _ _)).from _, hk1.setCell (by omega) (by omega) _, ⟨fitsF_snoc _ _ _ hf (by rw [EV.out]; omega), f0.other (by omega) _, f1.other (by omega) _, f2.other (by omega) _, f3.other (by omega) _, ?_⟩, hB1.setCell (p := ⟨w.heap.size + 1 + 1 + 1 + 1, 0, none⟩) (by show _ ≤ _ + 1 + 1 + 1 + 1; omega) _⟩
      have := f4.set (.int .i64 ((pre.length : Int) + 1))
      rw [show ((pre ++ [x]).length : Int) = (pre.length : Int) + 1 by simp]
      exact this
  case done =>
    rintro D ys W hD rfl ⟨⟨hf, c0, c1, c2, c3, c4⟩, hB⟩ hK
    have d1 := c1.cell
    have d1' := c1.frozen
    have d2 := c2.cell
    have d2' := c2.frozen
    have d3 := c3.cell
    gi_wp2
    have e1 := (c1.set (.int .u64 ((wordF (upto (fldOf ws) ws.length) vs : Nat) : Int))).other (B' := w.heap.size + 1 + 1) (by omega) (.int .i64 0)
    have e2 := (c2.other (B' := w.heap.size + 1) (by omega) (.int .u64 ((wordF (upto (fldOf ws) ws.length) vs : Nat) : Int))).set (.int .i64 0)
    have hK2 := ((KeepsOthers.setCell W ⟨w.heap.size + 1, 0, none⟩ (.int .u64 ((wordF (upto (fldOf ws) ws.length) vs : Nat) : Int))).trans (KeepsOthers.setCell _ ⟨w.heap.size + 1 + 1, 0, none⟩ (.int .i64 0))).same D _ hK rfl
    have hB2 := (hB.setCell (p := ⟨w.heap.size + 1, 0, none⟩) (by show _ ≤ _ + 1; omega) (.int .u64 ((wordF (upto (fldOf ws) ws.length) vs : Nat) : Int))).setCell (p := ⟨w.heap.size + 1 + 1, 0, none⟩) (by show _ ≤ _ + 1 + 1; omega) (.int .i64 0)
    generalize ((W.setCell _ _).setCell _ _) = W2 at e1 e2 hK2 hB2 ⊢
    refine ⟨by simp, .inl ⟨_, _, rfl, run_takeDeferred hK2, ?_⟩⟩
    have hc1 := (e1.kept (grownBy_putObj' W2 D (.deferred none)) (by simp; omega)).cell
    have hc2 := (e2.kept (grownBy_putObj' W2 D (.deferred none)) (by simp; omega)).cell
    refine ⟨.tuple #[.int .u64 ((wordF (upto (fldOf ws) ws.length) vs : Nat) : Int), .int .i64 0], by simp [results, Tryz.f145, go_sem, hc1, hc2], hB2.trans (belowK_b (w := w) (Nat.le_refl _) W2 D _ _ (by omega) hK2 rfl rfl), .inl ⟨by rw [HM.out], by rw [← HM.out]; exact hf⟩⟩
  case stop =>
    rintro D c pre W hD ⟨k, hk, rfl⟩ ⟨⟨rfl, ⟨ini, last, e1, e2⟩, c1, c2⟩, hB⟩ hK
    gi_wp2
    refine ⟨by simp, .inl ⟨_, _, rfl, run_takeDeferred hK, ?_⟩⟩
    have hc1 := (c1.kept (grownBy_putObj' W D (.deferred none)) (by simp; omega)).cell
    have hc2 := (c2.kept (grownBy_putObj' W D (.deferred none)) (by simp; omega)).cell
    refine ⟨.tuple #[.int .u64 0, .int .i64 1], by simp [results, Tryz.f145, go_sem, hc1, hc2], hB.trans (belowK_b (w := w) (Nat.le_refl _) W D _ _ (by omega) hK rfl rfl), .inr ⟨rfl, ?_⟩⟩
    intro hfit
    obtain ⟨k', rfl⟩ : ∃ k', k = k' + 1 := by
      cases k with
      | zero => simp [upto] at e1
      | succ k' => exact ⟨k', rfl⟩
    rw [upto_succ] at e1
    obtain ⟨rfl, e5⟩ := List.append_inj' e1 rfl
    obtain rfl : fldOf ws k' = last := by simpa using e5
    rw [upto_length] at e2
    have hlt : k' < (upto (fldOf ws) m).length := by rw [upto_length, ← HM.out]; omega
    have := hfit k' hlt (fldOf ws k') (by simp [upto, ← HM.out, show k' < ws.length by omega])
    omega
end Go.Proofs.YtogchafnnkajfaaGreat
namespace Go.Proofs.YtogchafnnkajfaaGreat
set_option linter.unusedVariables false
open Go.RowKit
open Go.RowKit Go.Shelf
attribute [local go_sem] Oper.semAt_some
set_option maxHeartbeats 400000 in
theorem fields_size (A B : Option Addr) (c d : Nat) (n m : Nat) (w : World) (h : n ≠ m) :
    Calls Tryz.prog 145 #[.slice A n c, .slice B m d] w fun e w' => e = .returned (.tuple #[.int .u64 0, .int .i64 3]) ∧ Below w.heap.size w w' := by
  have H1 : ((n : Int) != (m : Int)) = true := by simp; omega
  go_enter Tryz.func145, Tryz.ntmps145
  go_wp2
  refine bodyPost_ret (v := .tuple #[.int .u64 0, .int .i64 3]) (by simp [results, Tryz.f145, go_sem]) rfl ⟨rfl, ?_⟩
  exact ((((Below.refl _ w).alloc (Nat.le_refl _) _).alloc (by simp) _).alloc (by simp; omega) _)
set_option maxHeartbeats 400000 in
theorem fields_range (A B : Option Addr) (c d : Nat) (ws : List Int) (w : World) (hA : Reads w A (iv ws)) (hlen : ws.length ≤ 1000000) (hok : okW 0 ws = false) :
    Calls Tryz.prog 145 #[.slice A ws.length c, .slice B ws.length d] w fun e w' => e = .returned (.tuple #[.int .u64 0, .int .i64 1]) ∧ Below w.heap.size w w' := by
  have Hd := Lib.hid (fun W hA => divided_any A c ws W hA hlen)
  rw [hok] at Hd
  clear hok
  go_enter Tryz.func145, Tryz.ntmps145
  go_wp2_with fail
  refine (Hd.out _ (hA.keep ((((Below.refl _ w).alloc (Nat.le_refl _) _).alloc (by simp) _).alloc (by simp; omega) _))).mono ?_
  rintro e w' ⟨rfl, rfl⟩
  go_wp2_with fail
  refine bodyPost_ret (v := .tuple #[.int .u64 0, .int .i64 1]) (by simp [results, Tryz.f145, go_sem]) rfl ⟨rfl, ?_⟩
  exact ((((Below.refl _ w).alloc (Nat.le_refl _) _).alloc (by simp) _).alloc (by simp; omega) _)
def fitsB : List Fld → List Nat → Bool
  | [], _ => true
  | f :: pre, vs => decide (vs[0]?.getD 0 ≤ f.mask) && fitsB pre vs.tail
theorem fitsB_iff (pre : List Fld) (vs : List Nat) : fitsF pre vs ↔ fitsB pre vs = true := by
  induction pre generalizing vs with
  | nil => exact ⟨fun _ => rfl, fun _ k hk => by simp at hk⟩
  | cons f pre ih =>
    simp only [fitsB, Bool.and_eq_true, decide_eq_true_eq, ← ih]
    constructor
    · intro h
      refine ⟨h 0 (by simp) f rfl, fun k hk g hg => ?_⟩
      have := h (k + 1) (by simpa using hk) g (by simpa using hg)
      simpa using this
    · rintro ⟨h0, h1⟩ k hk g hg
      cases k with
      | zero => simp at hg; subst hg; exact h0
      | succ k => have := h1 k (by simpa using hk) g (by simpa using hg); simpa using this
def wordR (ws : List Int) (vs : List Nat) : Nat := if ws.length = vs.length ∧ okW 0 ws = true ∧ fitsB (upto (fldOf ws) ws.length) vs = true then wordF (upto (fldOf ws) ws.length) vs else 0
def wordE (ws : List Int) (vs : List Nat) : Int := if ws.length ≠ vs.length then 3 else if okW 0 ws = true ∧ fitsB (upto (fldOf ws) ws.length) vs = true then 0 else 1
theorem fields_all (A B : Option Addr) (c d n m : Nat) (ws : List Int) (vs : List Nat) (w : World) (hn : ws.length = n) (hm : vs.length = m) (hA : Reads w A (iv ws)) (hB : Reads w B (uv vs)) (hlen : n ≤ 1000000) (hw : W64 vs) :
    Calls Tryz.prog 145 #[.slice A n c, .slice B m d] w fun e w' => e = .returned (.tuple #[.int .u64 ((wordR ws vs : Nat) : Int), .int .i64 (wordE ws vs)]) ∧ Below w.heap.size w w' := by
  subst hn hm
  unfold wordR wordE
  by_cases hl : ws.length = vs.length
  · by_cases hok : okW 0 ws = true
    · refine (fields_ok A B c d ws vs w hA hB hl hlen hok hw).mono ?_
      rintro e w' ⟨hb, ⟨rfl, hf⟩ | ⟨rfl, hf⟩⟩
      · rw [fitsB_iff] at hf
        rw [if_pos ⟨hl, hok, hf⟩, if_neg (fun h => h hl), if_pos ⟨hok, hf⟩]
        exact ⟨rfl, hb⟩
      · rw [fitsB_iff] at hf
        rw [if_neg (fun h => hf h.2.2), if_neg (fun h => h hl), if_neg (fun h => hf h.2)]
        exact ⟨rfl, hb⟩
    · rw [if_neg (fun h => hok h.2.1), if_neg (fun h => h hl), if_neg (fun h => hok h.1), ← hl]
      exact fields_range A B c d ws w hA hlen (by simpa using hok)
  · rw [if_neg (fun h => hl h.1), if_pos hl]
    exact fields_size A B c d _ _ w hl
def splitF (pre : List Fld) (x : Nat) : List Nat := pre.map fun f => (x >>> f.at_) &&& f.mask
theorem splitF_length (pre : List Fld) (x : Nat) : (splitF pre x).length = pre.length := by simp [splitF]
theorem splitF_snoc (pre : List Fld) (f : Fld) (x : Nat) : splitF (pre ++ [f]) x = splitF pre x ++ [(x >>> f.at_) &&& f.mask] := by simp [splitF]
set_option maxHeartbeats 400000 in
theorem split_range (x : Int) (A : Option Addr) (c : Nat) (ws : List Int) (w : World) (hA : Reads w A (iv ws)) (hlen : ws.length ≤ 1000000) (hok : okW 0 ws = false) :
    Calls Tryz.prog 104 #[.int .u64 x, .slice A ws.length c] w fun e w' => e = .returned (.tuple #[.slice none 0 0, .int .i64 1]) ∧ Below w.heap.size w w' := by
  have Hd := Lib.hid (fun W hA => divided_any A c ws W hA hlen)
  rw [hok] at Hd
  clear hok
  go_enter Tryz.func104, Tryz.ntmps104
  go_wp2_with fail
  refine (Hd.out _ (hA.keep ((Below.refl _ w).alloc (Nat.le_refl _) _))).mono ?_
  rintro e w' ⟨rfl, rfl⟩
  go_wp2_with fail
  go_ret2
  exact ⟨rfl, (Below.refl _ w).alloc (Nat.le_refl _) _⟩
theorem Boxed.appended2 {W w1 : World} {nR n₀ B : Nat} {t e : TypeId} {size : Nat} {v v' : Value} {k m : Nat} {xs ys : List Value} {tmp : Obj}
    (hv : Boxed W B t v) (hte : t ≠ e) (hrow : W.ownsRow nR e size v k xs) (hnR : nR ≤ W.heap.size) (hn : n₀ ≤ B) (hBR : B < nR)
    (hown' : w1.ownsRow nR e size v' m ys) (hgrow : (W.alloc tmp).grownBy w1 v.ownBlock) :
    Boxed w1 B t v ∧ Boxed (w1.setCell ⟨B, 0, none⟩ v') B t v' ∧ (w1.setCell ⟨B, 0, none⟩ v').ownsRow nR e size v' m ys ∧ KeepsOthers W (w1.setCell ⟨B, 0, none⟩ v') ∧ Below n₀ W (w1.setCell ⟨B, 0, none⟩ v') ∧
      ∀ b, b < nR → b ≠ B → (w1.setCell ⟨B, 0, none⟩ v').heap[b]? = W.heap[b]? := by
  have hv1 : Boxed w1 B t v := (hv.alloc tmp).kept hgrow (hv.not_row hte hrow)
  have hBl : Below nR W w1 := by
    refine ((Below.refl nR W).alloc hnR tmp).grown hgrow (by simp; omega) fun j ej => ?_
    rcases hrow.2 with ⟨rfl, _⟩ | ⟨g, cap, cur, rfl, hb, _, _⟩
    · simp [Value.ownBlock] at ej
    · obtain rfl : g = j := by simpa [Value.ownBlock] using ej
      exact hb
  refine ⟨hv1, hv1.set v', hown'.kept (grownBy_setCell' w1 B v') (.inr (hv1.not_row hte hown').symm), ?_, ?_, ?_⟩
  · refine ((KeepsOthers.alloc W tmp).trans (KeepsOthers.of_grownBy hgrow fun j o ej hj => ?_)).trans (KeepsOthers.setCell _ _ _)
    rcases (hrow.alloc tmp).2 with ⟨rfl, _⟩ | ⟨g, cap, cur, rfl, _, hgb, _⟩
    · simp [Value.ownBlock] at ej
    · obtain rfl : g = j := by simpa [Value.ownBlock] using ej
      rw [hgb] at hj; cases hj; rfl
  · exact (hBl.mono (by omega)).setCell (p := ⟨B, 0, none⟩) hn v'
  · intro b hb hne
    exact (Below.heap_setCell _ _ _ _ hne).trans (hBl.block b hb)
set_option maxRecDepth 100000 in
set_option maxHeartbeats 1000000 in
theorem split_ok (x : Nat) (A : Option Addr) (c : Nat) (ws : List Int) (w : World) (hA : Reads w A (iv ws)) (hlen : ws.length ≤ 1000000) (hok : okW 0 ws = true) (hx : x < 18446744073709551616) :
    Calls Tryz.prog 104 #[.int .u64 x, .slice A ws.length c] w fun e w' => ∃ v, e = .returned (.tuple #[v, .int .i64 0]) ∧ w'.ownsRow w.heap.size 26 1 v ws.length (uv (splitF (upto (fldOf ws) ws.length) x)) ∧ Below w.heap.size w w' := by
  refine (callsIn_wide (n := 6)).1 ?_
  obtain ⟨i0, hi0, hz0, hz1, hz2⟩ := info_parts u64_info
  obtain ⟨m, hm⟩ : ∃ m, ws.length = m := ⟨_, rfl⟩
  have Hd := Lib.hid (fun W hA => divided_any A c ws W hA hlen)
  have hci : ∀ i, i < m → ∃ b off, A = some ⟨b, off, none⟩ ∧ b < w.heap.size ∧ w.cell? ⟨b, off + i, none⟩ = some (.int .i64 (ws[i]?.getD 0)) := by
    intro i hi
    obtain ⟨b, off, e, hb, hc⟩ := hA.i (by omega)
    exact ⟨b, off, e, hb, hc i (by omega)⟩
  rw [hm]
  rw [hm, hok] at Hd
  rw [hm] at hlen
  have HM := Lib.hid hm
  have HI := Lib.hid hci
  have HOK := Lib.hid hok
  have HA := Lib.hid hA
  clear hm hci hok hA
  refine callsIn_of_wp_marks Tryz.func104 rfl trivial ?_ rfl
  simp only [Tryz.ntmps104, List.size_toArray, List.length_cons, List.length_nil, Nat.reduceAdd, Nat.reduceSub, Array.replicate_succ, Array.replicate_zero, List.push_toArray, List.append_toArray, List.nil_append, List.cons_append]
  gi_wp2_with fail
  refine ⟨trivial, ?_⟩
  refine (callsIn_wide.2 (Hd.out _ (HA.out.keep ((Below.refl _ w).alloc (Nat.le_refl _) _)))).mono ?_
  rintro e w' ⟨rfl, rfl⟩
  gi_wp2_with fail
  refine ⟨trivial, ?_⟩
  refine (fields_in Fence.wide 5 trivial rfl _ _ _ _).mono ?_
  rintro e w' ⟨rfl, rfl⟩
  gi_wp2_with fail
  have b0 := ((Boxed.new w 26 (.int .u64 (x : Int))).alloc (.cells #[.slice none 0 0] 29)).alloc (.cells #[.slice A m c] 22)
  have b1 := (Boxed.new (w.alloc (.cells #[.int .u64 (x : Int)] 26)) 29 (.slice none 0 0)).alloc (.cells #[.slice A m c] 22)
  have b2 := Boxed.new ((w.alloc (.cells #[.int .u64 (x : Int)] 26)).alloc (.cells #[.slice none 0 0] 29)) 22 (.slice A m c)
  have hb : Below w.heap.size w (((w.alloc (.cells #[.int .u64 (x : Int)] 26)).alloc (.cells #[.slice none 0 0] 29)).alloc (.cells #[.slice A m c] 22)) :=
    ((((Below.refl _ w).alloc (Nat.le_refl _) _).alloc (by simp) _).alloc (by simp; omega) _)
  simp only [World.size_alloc] at b0 b1 b2
  obtain ⟨W0, hW0⟩ : ∃ W0, (((w.alloc (.cells #[.int .u64 (x : Int)] 26)).alloc (.cells #[.slice none 0 0] 29)).alloc (.cells #[.slice A m c] 22)) = W0 := ⟨_, rfl⟩
  have hsz : W0.heap.size = w.heap.size + 1 + 1 + 1 := by rw [← hW0]; simp
  rw [hW0] at b0 b1 b2 hb ⊢
  clear hW0
  refine wpIn_rangeFunc_ownG rfl (by omega) (gf := 155) (lb := #[.pointer (some ⟨w.heap.size + 1 + 1, 0, none⟩)]) rfl trivial (enters_of Tryz.func155 (by kernel_rfl) rfl)
    (fields_stops Fence.wide 5 trivial rfl (by omega) (w.heap.size + 1 + 1) w.heap.size A c ws HOK.out (by rw [HM.out]; exact hlen) W0 (by omega) (by omega) (by rw [HM.out]; exact b2.cell)
      (fun i hi => by
        obtain ⟨b, off, e, hlt, h⟩ := HI.out i (by rw [← HM.out]; exact hi)
        exact ⟨b, off, e, hlt, (hb.cell (p := ⟨b, off + i, none⟩) hlt).trans h⟩))
    KeepB.trans (KeepB.putObj (by omega) (by omega)) (Below.refl _ _) (fun _ => rfl)
    (fun pre W => ((∃ v, Boxed W (w.heap.size + 1) 29 v ∧ W.ownsRow W0.heap.size 26 1 v pre.length (uv (splitF pre x)) ∧ True) ∧ Boxed W w.heap.size 26 (.int .u64 (x : Int))) ∧ Below w.heap.size w W ∧ W0.heap.size ≤ W.heap.size)
    (fun _ _ _ => False)
    (OwnFrom.and (OwnFrom.and (Own.from (holdsRow_own W0.heap.size (w.heap.size + 1) 29 26 1 (fun pre : List Fld => pre.length) (fun pre => uv (splitF pre x)) (fun _ _ => True)) _) (Own.from (boxed_own w.heap.size 26 (fun _ => .int .u64 (x : Int))) _)) (OwnFrom.and (ownFrom_below (Nat.le_refl _) (by omega)) (fun s A B row hs hg hr => Nat.le_trans hs hg.size)))
    (fun c s A B row hs hg hr => hs)
    ⟨⟨⟨_, b1, World.ownsRow_nil _ _ _ _, trivial⟩, b0⟩, hb, Nat.le_refl _⟩
    (fun f => { tmps := #[.int .u64 (x : Int), .slice A m c, .pointer (some ⟨w.heap.size, 0, none⟩), undef, .slice none 0 0, .int .i64 0, .pointer (some ⟨w.heap.size + 1, 0, none⟩), .int .i64 (f.at_ : Int), .int .u64 (f.mask : Int),
      .slice A m c, .bool true, .bool false, .slice A m c, .func (.func 155) #[] #[.pointer (some ⟨w.heap.size + 1 + 1, 0, none⟩)], .int .i64 (f.at_ : Int), .int .u64 (f.mask : Int),
      undef, undef, undef, undef, undef, undef, undef, undef, undef], defers := [] }) ?assign ?body ?done ?stop
  case assign =>
    intro l f W K hK
    gi_wp2
    exact hK
  case body =>
    rintro l pre f W ⟨⟨⟨v, c1, hrow, _⟩, c0⟩, hB, hszW⟩ hlt
    have hmix : Tryz.prog.follows .mixedOrders = true := by kernel_rfl
    have hat := f.hat
    have hmask := f.hmask
    have hlt' : pre.length < m := by rw [← HM.out]; exact hlt
    obtain ⟨a1, n1, hv⟩ := own_form hrow
    subst hv
    gi_wp2
    refine wpIn_region_mix 6 7 hmix (by kernel_rfl) (by rintro ⟨_, _, h⟩; exact h) (by kernel_rfl) (fun W' => W'.cell? ⟨w.heap.size + 1, 0, none⟩ = some (.slice a1 pre.length n1) ∧ W'.cell? ⟨w.heap.size, 0, none⟩ = some (.int .u64 (x : Int))) ⟨c1.cell, c0.cell⟩ ?_
    simp only [List.take_succ_cons, List.take_zero, List.drop_succ_cons, List.drop_zero]
    refine ⟨?_, Or.inl ⟨by rfl, fun W' hS' => ?_⟩, fun _ _ _ h => h, ?_⟩
    rotate_left
    · obtain ⟨hs1, hs2⟩ := hS'
      go_simp
      with_reducible rfl
    simp only [Act.put, List.setIfInBounds_toArray, List.set_cons_zero, List.set_cons_succ]
    refine ⟨?_, Or.inl ⟨by rfl, fun W' hS' => ?_⟩, fun _ _ _ h => h, ?_⟩
    rotate_left
    · obtain ⟨hs1, hs2⟩ := hS'
      go_simp
      with_reducible rfl
    simp only [Act.put, List.setIfInBounds_toArray, List.set_cons_zero, List.set_cons_succ]
    refine ⟨?_, Or.inl ⟨by rfl, fun W' hS' => ?_⟩, fun _ _ _ h => h, ?_⟩
    rotate_left
    · obtain ⟨hs1, hs2⟩ := hS'
      go_simp
      with_reducible rfl
    simp only [Act.put, List.setIfInBounds_toArray, List.set_cons_zero, List.set_cons_succ]
    refine ⟨?_, Or.inl ⟨by rfl, fun W' hS' => ?_⟩, fun _ _ _ h => h, ?_⟩
    rotate_left
    · obtain ⟨hs1, hs2⟩ := hS'
      go_simp
      with_reducible rfl
    simp only [Act.put, List.setIfInBounds_toArray, List.set_cons_zero, List.set_cons_succ]
    refine ⟨?_, Or.inl ⟨by rfl, fun W' hS' => ?_⟩, fun _ _ _ h => h, ?_⟩
    rotate_left
    · obtain ⟨hs1, hs2⟩ := hS'
      go_simp
      with_reducible rfl
    simp only [Act.put, List.setIfInBounds_toArray, List.set_cons_zero, List.set_cons_succ]
    refine ⟨?_, Or.inl ⟨by rfl, fun W' hS' => ?_⟩, fun _ _ _ h => h, ?_⟩
    rotate_left
    · obtain ⟨hs1, hs2⟩ := hS'
      go_simp
      with_reducible rfl
    simp only [Act.put, List.setIfInBounds_toArray, List.set_cons_zero, List.set_cons_succ]
    show wpSeqT _ _ _ _ _ _ _ _ _
    refine wpSeqT_step (fun K hK => ?_)
    go_simp
    refine hK _ _ (fun _ => ⟨(c1.alloc _).cell, (c0.alloc _).cell⟩) ?_
    clear hK K
    refine wpSeqT_list _ _ _ _ (by omega) ?_
    refine wpList_append_reads _ (by rfl) _ _ _ (by rfl) W0.heap.size 26 i0 _ 1 8 Tryz.underlying29 hi0 hz0 hz1 hz2 (by rfl) (by omega) (.slice a1 pre.length n1) pre.length (uv (splitF pre x)) (by rfl) (World.ownsRow.drew (hrow.alloc _)) (some ⟨W.heap.size, 0, none⟩) 1 1 [.int .u64 (bits BinOp.and IntKind.u64 ((x : Int) / 2 ^ f.at_) (f.mask : Int))] (by rfl) (by rfl) (Reads.new _ _ _) (by simp [Value.oneCell']) (by simp only [maxLen]; omega) (by omega) (by simp; omega) ?_
    intro v1 w1 hown1 hg1 hat1
    obtain ⟨g1, cap1, rfl⟩ := ownsRow_succ hown1
    obtain ⟨e1, e2, e3, e4, e5, e6⟩ := Boxed.appended2 (W := W.drew) (nR := W0.heap.size) (n₀ := w.heap.size) c1 (by decide) hrow hszW (by omega) (by omega) hown1 hg1
    have e1c := e1.cell
    have e1f := e1.frozen
    replace e5 := (Below.refl w.heap.size W).drew.trans e5
    have hval : bits BinOp.and IntKind.u64 ((x : Int) / 2 ^ f.at_) (f.mask : Int) = (((x >>> f.at_) &&& f.mask : Nat) : Int) := by
      rw [cast_shr, u64_and_nat _ _ (Nat.lt_of_le_of_lt (Nat.shiftRight_le _ _) hx) hmask]
    have hrow2 : (w1.setCell ⟨w.heap.size + 1, 0, none⟩ (.slice (some ⟨g1, 0, none⟩) (pre.length + 1) cap1)).ownsRow W0.heap.size 26 1 (.slice (some ⟨g1, 0, none⟩) (pre.length + 1) cap1) (pre ++ [f]).length (uv (splitF (pre ++ [f]) x)) := by
      rw [splitF_snoc]
      rw [List.length_append, uv_append]
      rw [hval] at e3
      exact e3
    have hk1 : KeepB w.heap.size (w.heap.size + 1 + 1) W (w1.setCell ⟨w.heap.size + 1, 0, none⟩ (.slice (some ⟨g1, 0, none⟩) (pre.length + 1) cap1)) := ⟨e5, e6 _ (by omega) (by omega)⟩
    have c0' : Boxed (w1.setCell ⟨w.heap.size + 1, 0, none⟩ (.slice (some ⟨g1, 0, none⟩) (pre.length + 1) cap1)) w.heap.size 26 (.int .u64 (x : Int)) := (e6 _ (by omega) (by omega)).trans c0
    have hB1 := hB.trans (show Below w.heap.size W _ from e5)
    have hsz1 := Nat.le_trans hszW (show W.heap.size ≤ _ from e4.size)
    have hko := (KeepsOthers.drew W).trans e4
    clear hval e3 e4 e5 e6 c0 c1 hrow hown1 hg1 hat1
    go_wp2
    exact ⟨hko.from _, hk1, ⟨⟨_, e2, hrow2, trivial⟩, c0'⟩, hB1, hsz1⟩
  case done =>
    rintro D ys W hD rfl ⟨⟨⟨v, c1, hrow, _⟩, c0⟩, hB, hszW⟩ hK
    have d1 := c1.cell
    obtain ⟨a1, n1, hv⟩ := own_form hrow
    subst hv
    gi_wp2
    refine ⟨by simp, .inl ⟨_, _, rfl, run_takeDeferred hK, ?_⟩⟩
    refine ⟨.tuple #[.slice a1 (upto (fldOf ws) ws.length).length n1, .int .i64 0], by simp [results, Tryz.f104, go_sem], _, rfl, ?_, hB.trans (belowK_b (w := w) (Nat.le_refl _) W D _ _ (by omega) hK rfl rfl)⟩
    have h2 := ownsRow_putObj hrow (.deferred none) hK rfl
    rw [upto_length] at h2
    rw [← HM.out]
    rw [upto_length]
    exact ⟨h2.1, h2.2.imp id fun ⟨g, cap, cur, q1, q2, q3⟩ => ⟨g, cap, cur, q1, by omega, q3⟩⟩
  case stop =>
    rintro D c pre W _ _ h _
    exact h.elim
def splitR (ws : List Int) (x : Nat) : List Nat := if okW 0 ws = true then splitF (upto (fldOf ws) ws.length) x else []
def splitE (ws : List Int) : Int := if okW 0 ws = true then 0 else 1
theorem split_all (x : Nat) (A : Option Addr) (c n : Nat) (ws : List Int) (w : World) (hn : ws.length = n) (hA : Reads w A (iv ws)) (hlen : n ≤ 1000000) (hx : x < 18446744073709551616) :
    Calls Tryz.prog 104 #[.int .u64 x, .slice A n c] w fun e w' => ∃ B d, e = .returned (.tuple #[.slice B (splitR ws x).length d, .int .i64 (splitE ws)]) ∧ Reads w' B (uv (splitR ws x)) ∧ Below w.heap.size w w' := by
  subst hn
  unfold splitR splitE
  by_cases hok : okW 0 ws = true
  · rw [if_pos hok, if_pos hok, splitF_length, upto_length]
    refine (split_ok x A c ws w hA hlen hok hx).mono ?_
    rintro e w' ⟨v, rfl, hown, hb⟩
    obtain ⟨B, d, rfl⟩ := own_form hown
    exact ⟨B, d, rfl, Reads.of_own hown, hb⟩
  · rw [if_neg hok, if_neg hok]
    refine (split_range x A c ws w hA hlen (by simpa using hok)).mono ?_
    rintro e w' ⟨rfl, hb⟩
    exact ⟨none, 0, rfl, Reads.nil, hb⟩
end Go.Proofs.YtogchafnnkajfaaGreat
namespace Go.Proofs.YtogchafnnkajfaaGreat
set_option linter.unusedVariables false
open Go.RowKit
def SrcAt (W : World) (g : Nat) : Prop :=
  ∃ (w0 : World) (A : Option Addr) (n c : Nat) (at0 : Nat) (L : List Int), W.heap[g]? = some (.cells #[.slice A n c, .int .i64 (at0 : Int)] 81 (0, 0)) ∧
    Reads w0 A (iv L) ∧ L.length = n ∧ I64 L ∧ at0 ≤ n ∧ n ≤ 1000 ∧ w0.heap.size ≤ g ∧ Below w0.heap.size w0 W
theorem SrcAt.lt {W : World} {g : Nat} (h : SrcAt W g) : g < W.heap.size := by
  obtain ⟨w0, A, n, c, at0, L, h1, _⟩ := h
  exact (Array.getElem?_eq_some_iff.1 h1).1
theorem SrcAt.below {W W' : World} {g B : Nat} (h : SrcAt W g) (hb : Below B W W') (hg : g < B) : SrcAt W' g := by
  obtain ⟨w0, A, n, c, at0, L, h1, h2, h3, h4, h5, h6, h7, h8⟩ := h
  exact ⟨w0, A, n, c, at0, L, (hb.block g hg).trans h1, h2, h3, h4, h5, h6, h7, h8.trans (hb.mono (by omega))⟩
theorem SrcAt.grown {W W' : World} {g : Nat} {row : Option Nat} (h : SrcAt W g) (hg : W.grownBy W' row) (hr : ∀ r, row = some r → g < r) : SrcAt W' g := by
  have hlt := h.lt
  exact h.below (B := g + 1) ((Below.refl _ W).grown hg (by omega) (fun k e => by have := hr k e; omega)) (by omega)
theorem only_drewN_refl (W : World) (n : Nat) {row : Option Nat} : W.grownBy (W.drewN n) row := ⟨rfl, rfl, rfl, Nat.le_refl _, fun _ _ _ => rfl⟩
theorem only_drewN' {a w : World} {row : Option Nat} (h : a.grownBy w row) (n : Nat) : a.grownBy (w.drewN n) row := ⟨h.os, h.tape, h.output, h.size, h.block⟩
set_option maxHeartbeats 400000 in
theorem new_any (A : Option Addr) (n c : Nat) (l : List Int) (w : World) (hN : l.length = n) (hA : Reads w A (iv l)) (hw : I64 l) (hl : n ≤ c) :
    Calls Tryz.prog 10 #[.slice A n c] w fun e w' => e = .returned (.pointer (some ⟨w.heap.size, 0, none⟩)) ∧ SrcAt w' w.heap.size ∧ Below w.heap.size w w' ∧ w'.heap.size = w.heap.size + 1 := by
  by_cases h : 1000 < n
  · have h' : 1000 < (n : Int) := by omega
    have h2 : (1000 : Int) ≤ (c : Int) := by omega
    have h3 : ¬ c < 1000 := by omega
    go_enter Tryz.func10, Tryz.ntmps10
    go_wp2
    go_ret
    refine ⟨rfl, ?_, (Below.refl _ _).alloc (Nat.le_refl _) _, by simp⟩
    refine ⟨w, A, 1000, c, 0, l.take 1000, heap_alloc_new w _, ?_, by simp; omega, fun x hx => hw x (List.mem_of_mem_take hx), Nat.zero_le _, by omega, Nat.le_refl _, (Below.refl _ _).alloc (Nat.le_refl _) _⟩
    have := hA.take' 1000
    unfold iv at this ⊢
    rw [List.map_take]
    exact this
  · have h' : ¬ 1000 < (n : Int) := by omega
    go_enter Tryz.func10, Tryz.ntmps10
    go_wp2
    go_ret
    refine ⟨rfl, ?_, (Below.refl _ _).alloc (Nat.le_refl _) _, by simp⟩
    exact ⟨w, A, n, c, 0, l, heap_alloc_new w _, hA, hN, hw, Nat.zero_le _, by omega, Nat.le_refl _, (Below.refl _ _).alloc (Nat.le_refl _) _⟩
set_option maxHeartbeats 400000 in
theorem raw_any (g : Nat) (W : World) (h : SrcAt W g) :
    Calls Tryz.prog 43 #[.pointer (some ⟨g, 0, none⟩)] W fun e W' => ∃ r : Int, e = .returned (.int .i64 r) ∧ -9223372036854775808 ≤ r ∧ r ≤ 9223372036854775807 ∧ SrcAt W' g ∧ W.grownBy W' (some g) := by
  obtain ⟨w0, A, n, c, k, L, h1, h2, h3, h4, h5, h6, h7, h8⟩ := h
  have hc0 : W.cell? ⟨g, 0, none⟩ = some (.slice A n c) := cell_of_row W g 0 _ _ _ h1
  have hc1 : W.cell? ⟨g, 1, none⟩ = some (.int .i64 (k : Int)) := cell_of_row W g 1 _ _ _ h1
  have hf1 : W.frozen? ⟨g, 1, none⟩ = false := frozen_of_row W g 1 _ _ h1
  by_cases hk : k < n
  · have hk' : ¬ (n : Int) ≤ (k : Int) := by omega
    have hL := I64.at h4 k
    obtain ⟨b, off, rfl, hb, hcs⟩ := h2.i (by omega)
    have hcl := (h8.cell (p := ⟨b, off + k, none⟩) hb).trans (hcs k (by omega))
    obtain ⟨r, er⟩ : ∃ r, L[k]?.getD 0 = r := ⟨_, rfl⟩
    rw [er] at hcl hL
    have hne : b ≠ g := by omega
    have H1 := Lib.hid h1
    have H3 := Lib.hid h3
    clear er hcs h1 h3
    go_enter Tryz.func43, Tryz.ntmps43
    go_wp2
    go_quiet (fail)
    go_wp2
    have hg : W.grownBy ((W.drewN nq).setCell ⟨g, 1, none⟩ (.int .i64 ((k : Int) + 1))) (some g) :=
      ⟨rfl, rfl, rfl, by simp, fun j _ hj => Below.heap_setCell _ _ _ j (fun e => hj (by rw [e]))⟩
    have hW2 : SrcAt ((W.drewN nq).setCell ⟨g, 1, none⟩ (.int .i64 ((k : Int) + 1))) g := by
      refine ⟨w0, some ⟨b, off, none⟩, n, c, k + 1, L, ?_, h2, H3.out, h4, by omega, h6, h7, (below_drewN h8 nq).setCell (p := ⟨g, 1, none⟩) h7 _⟩
      have := heap_setCell_same (W.drewN nq) g 1 _ 81 (.int .i64 ((k : Int) + 1)) H1.out
      exact this
    have d0 : ((W.drewN nq).setCell ⟨g, 1, none⟩ (.int .i64 ((k : Int) + 1))).cell? ⟨g, 0, none⟩ = some (.slice (some ⟨b, off, none⟩) n c) := (World.cell?_setCell_other _ _ _ _ (by simp)).trans hc0
    have d1 : ((W.drewN nq).setCell ⟨g, 1, none⟩ (.int .i64 ((k : Int) + 1))).cell? ⟨g, 1, none⟩ = some (.int .i64 ((k : Int) + 1)) := World.cell?_setCell_same _ _ _ hc1
    have d2 : ((W.drewN nq).setCell ⟨g, 1, none⟩ (.int .i64 ((k : Int) + 1))).cell? ⟨b, off + k, none⟩ = some (.int .i64 r) := (World.cell?_setCell_other _ _ _ _ (fun e => hne (congrArg Addr.block e).symm)).trans hcl
    generalize ((W.drewN nq).setCell _ _) = W2 at hg hW2 d0 d1 d2 ⊢
    have t1 : IntKind.i64.wrap (k : Int) = (k : Int) := IntWalk.i64_in _ (by omega)
    have t2 : (0 : Int) ≤ (k : Int) := by omega
    clear hc0 hc1 hf1 hcl
    go_quiet (fail)
    go_wp2
    go_ret
    exact ⟨r, rfl, hL.1, hL.2, hW2.grown (row := none) (only_drewN_refl _ _) (fun r e => by cases e), only_drewN' hg _⟩
  · have hk' : (n : Int) ≤ (k : Int) := by omega
    have H0 : SrcAt W g := ⟨w0, A, n, c, k, L, h1, h2, h3, h4, h5, h6, h7, h8⟩
    clear h1 h3
    go_enter Tryz.func43, Tryz.ntmps43
    go_wp2
    go_quiet (fail)
    go_wp2
    go_ret
    exact ⟨0, rfl, by omega, by omega, H0.grown (row := none) (only_drewN_refl _ _) (fun r e => by cases e), only_drewN_refl _ _⟩
set_option maxHeartbeats 400000 in
theorem n_any (g : Nat) (n : Int) (W : World) (h : SrcAt W g) (h1 : 1 ≤ n) (h2 : n ≤ 1000000000000) :
    Calls Tryz.prog 13 #[.pointer (some ⟨g, 0, none⟩), .int .i64 n] W fun e W' => ∃ r : Int, e = .returned (.int .i64 r) ∧ 0 ≤ r ∧ r < n ∧ SrcAt W' g ∧ W.grownBy W' (some g) := by
  have h1' : ¬ n < 1 := by omega
  go_enter Tryz.func13, Tryz.ntmps13
  go_wp2_with fail
  refine (raw_any g W h).mono ?_
  rintro e W2 ⟨r, rfl, hr1, hr2, hs, hg⟩
  have t1 := Int.tmod_lt_of_pos r (b := n) (by omega)
  have t2 : -n < r.tmod n := Int.lt_tmod_of_pos r (by omega)
  obtain ⟨T, hT⟩ : ∃ T, r.tmod n = T := ⟨_, rfl⟩
  rw [hT] at t1 t2
  have hz : n ≠ 0 := by omega
  by_cases hneg : T < 0
  · go_wp2_with fail
    go_ret
    exact ⟨_, rfl, by omega, by omega, hs, hg⟩
  · go_wp2_with fail
    go_ret
    exact ⟨_, rfl, by omega, by omega, hs, hg⟩
set_option maxHeartbeats 400000 in
theorem range_any (g : Nat) (lo hi : Int) (W : World) (h : SrcAt W g) (h1 : lo ≤ hi) (h2 : hi ≤ 100000000000) (h3 : -100000000000 ≤ lo) :
    Calls Tryz.prog 11 #[.pointer (some ⟨g, 0, none⟩), .int .i64 lo, .int .i64 hi] W fun e W' => ∃ r : Int, e = .returned (.int .i64 r) ∧ lo ≤ r ∧ r ≤ hi ∧ SrcAt W' g ∧ W.grownBy W' (some g) := by
  go_enter Tryz.func11, Tryz.ntmps11
  go_wp2_with fail
  refine (n_any g _ W h (by omega) (by omega)).mono ?_
  rintro e W2 ⟨r, rfl, hr1, hr2, hs, hg⟩
  go_wp2_with fail
  go_ret
  exact ⟨_, rfl, by omega, by omega, hs, hg⟩
end Go.Proofs.YtogchafnnkajfaaGreat
namespace Go.Proofs.YtogchafnnkajfaaGreat
set_option linter.unusedVariables false
open Go.RowKit
theorem step_odd (x : Nat) (h : x % 2 = 1) : stepC x = (x >>> 1) ^^^ 2197175160 := by
  unfold stepC
  rw [if_pos (by rw [Nat.testBit_zero, h]; rfl)]
  rfl
theorem step_even (x : Nat) (h : ¬ x % 2 = 1) : stepC x = x >>> 1 := by
  unfold stepC
  rw [if_neg (by rw [Nat.testBit_zero]; simpa using h), Nat.xor_zero]
theorem and_one32 (x : Nat) (h : x < 4294967296) : bits .and .u32 (x : Int) 1 = ((x % 2 : Nat) : Int) := by
  have := u32_and_nat x 1 h (by omega)
  rw [Nat.and_one_is_mod] at this
  exact this
theorem shr1_lt (x : Nat) (h : x < 4294967296) : x >>> 1 < 4294967296 := Nat.lt_of_le_of_lt (Nat.shiftRight_le _ _) h
set_option maxHeartbeats 400000 in
theorem refStep_any (x : Nat) (w : World) (hx : x < 4294967296) :
    Calls Tryz.prog 162 #[.int .u32 (x : Int)] w fun e w' => e = .returned (.int .u32 ((stepC x : Nat) : Int)) ∧ w = w' := by
  have h0 := and_one32 x hx
  by_cases h : x % 2 = 1
  · have h1 : bits .and .u32 (x : Int) 1 = 1 := by rw [h0, h]; rfl
    have H := Lib.hid h
    clear h0 h
    go_enter Tryz.func162, Tryz.ntmps162
    go_wp2
    go_ret
    refine ⟨ret_int ?_, rfl⟩
    rw [step_odd x H.out, ← u32_xor_nat _ _ (shr1_lt x hx) (by omega), Nat.shiftRight_eq_div_pow]
    rfl
  · have h1 : (bits .and .u32 (x : Int) 1 == 1) = false := by rw [h0]; simp; omega
    have h2 : ¬ bits .and .u32 (x : Int) 1 = 1 := by simpa using h1
    have H := Lib.hid h
    clear h0 h
    go_enter Tryz.func162, Tryz.ntmps162
    go_wp2
    go_ret
    refine ⟨ret_int ?_, rfl⟩
    rw [step_even x H.out, Nat.shiftRight_eq_div_pow]
    rfl
set_option maxHeartbeats 400000 in
theorem refFeed_any (x b : Nat) (w : World) (hx : x < 4294967296) (hb : b < 256) :
    Calls Tryz.prog 159 #[.int .u32 (x : Int), .int .u8 (b : Int)] w fun e w' => e = .returned (.int .u32 ((feedC x b : Nat) : Int)) ∧ w = w' := by
  have hxb : bits .xor .u32 (x : Int) (b : Int) = ((x ^^^ b : Nat) : Int) := u32_xor_nat x b hx (by omega)
  have hlt : x ^^^ b < 4294967296 := Nat.xor_lt_two_pow (n := 32) hx (by omega)
  go_enter Tryz.func159, Tryz.ntmps159
  go_wp2
  go_loop [0, 5] (fun y i => ∃ k : Nat, k ≤ 8 ∧ i = .int .i64 k ∧ y = .int .u32 ((stepN k (x ^^^ b) : Nat) : Int)) (fun _ i => 8 - (intOf i).toNat)
  case atStart => exact ⟨0, Nat.zero_le _, rfl, rfl⟩
  case round =>
    obtain ⟨k, hk, rfl, rfl⟩ := hrel
    have hs := stepN_lt k _ hlt
    by_cases hlt8 : k < 8
    · have h8 : (k : Int) < 8 := by omega
      go_wp2_with fail
      refine (refStep_any _ _ hs).mono ?_
      rintro e w' ⟨rfl, rfl⟩
      go_wp2_with fail
      go_round
      case rel => exact ⟨k + 1, by omega, by go_num, rfl⟩
      case measure => simp [intOf]; omega
    · obtain rfl : k = 8 := by omega
      go_wp2_with fail
      go_ret
      exact ⟨rfl, rfl⟩
theorem byte_wrap (w k : Nat) : IntKind.u8.wrap ((w : Int) / 2 ^ k) = ((((w >>> k) % 256 : Nat)) : Int) := by
  rw [cast_shr, IntKind.wrap_u8]; omega
set_option maxHeartbeats 400000 in
theorem refWord_any (x v : Nat) (w : World) (hx : x < 4294967296) (hv : v < 18446744073709551616) :
    Calls Tryz.prog 147 #[.int .u32 (x : Int), .int .u64 (v : Int)] w fun e w' => e = .returned (.int .u32 ((wordC x v 8 : Nat) : Int)) ∧ w = w' := by
  go_enter Tryz.func147, Tryz.ntmps147
  go_wp2
  go_loop [0, 5] (fun y i => ∃ k : Nat, k ≤ 8 ∧ i = .int .i64 k ∧ y = .int .u32 ((wordC x v k : Nat) : Int)) (fun _ i => 8 - (intOf i).toNat)
  case atStart => exact ⟨0, Nat.zero_le _, rfl, rfl⟩
  case round =>
    obtain ⟨k, hk, rfl, rfl⟩ := hrel
    have hs := wordC_lt x v k hx
    by_cases hlt8 : k < 8
    · have h8 : (k : Int) < 8 := by omega
      have e8 : ((8 : Int) * (k : Int)).toNat = 8 * k := by omega
      have hby := byte_wrap v (8 * k)
      rw [← show byteC v k = (v >>> (8 * k)) % 256 from rfl] at hby
      have hbl := byteC_lt v k
      go_wp2_with fail
      refine (refFeed_any _ _ _ hs hbl).mono ?_
      rintro e w' ⟨rfl, rfl⟩
      go_wp2_with fail
      go_round
      case rel => exact ⟨k + 1, by omega, by go_num, rfl⟩
      case measure => simp [intOf]; omega
    · obtain rfl : k = 8 := by omega
      go_wp2_with fail
      go_ret
      exact ⟨rfl, rfl⟩
theorem xor_ones (s : Nat) (h : s < 4294967296) : 4294967295 ^^^ s = 4294967295 - s := by
  have e : 4294967295 - s = 2 ^ 32 - (s + 1) := by omega
  apply Nat.eq_of_testBit_eq
  intro j
  rw [e, Nat.testBit_two_pow_sub_succ h, Nat.testBit_xor, show (4294967295 : Nat) = 2 ^ 32 - 1 from rfl, Nat.testBit_two_pow_sub_one]
  by_cases hj : j < 32
  · simp [hj]
  · have : s.testBit j = false := Nat.testBit_lt_two_pow (Nat.lt_of_lt_of_le h (Nat.pow_le_pow_right (n := 2) (by omega) (show 32 ≤ j by omega)))
    simp [hj, this]
theorem not32 (s : Nat) (h : s < 4294967296) : bits .xor .u32 IntKind.u32.max (s : Int) = ((4294967295 - s : Nat) : Int) := by
  have := u32_xor_nat 4294967295 s (by omega) h
  rw [xor_ones s h] at this
  exact this
set_option maxHeartbeats 400000 in
theorem refExtend_any (s : Nat) (A : Option Addr) (c n : Nat) (l : List Nat) (w : World) (hn : l.length = n) (hA : Reads w A (uv l)) (hl : W64 l) (hlen : n ≤ 1000000) (hs : s < 4294967296) :
    Calls Tryz.prog 122 #[.int .u32 (s : Int), .slice A n c] w fun e w' => e = .returned (.int .u32 ((extendC s l : Nat) : Int)) ∧ w = w' := by
  have hcx : ∀ i, i < n → ∃ b off, A = some ⟨b, off, none⟩ ∧ w.cell? ⟨b, off + i, none⟩ = some (.int .u64 ((l[i]?.getD 0 : Nat) : Int)) := by
    intro i hi
    obtain ⟨b, off, e, _, hc⟩ := hA.u (by omega)
    exact ⟨b, off, e, hc i (by omega)⟩
  have HX := Lib.hid hcx
  have HN := Lib.hid hn
  clear hcx hA hn
  go_enter Tryz.func122, Tryz.ntmps122
  go_wp2
  go_loop [5, 6] (fun y i => ∃ k : Nat, k ≤ n ∧ i = .int .i64 k ∧ y = .int .u32 ((wordsC (4294967295 - s) (l.take k) : Nat) : Int)) (fun _ i => n - (intOf i).toNat)
  case atStart => exact ⟨0, Nat.zero_le _, rfl, val_int (by rw [not32 s hs]; rfl)⟩
  case round =>
    obtain ⟨k, hk, rfl, rfl⟩ := hrel
    have hs' := wordsC_lt (4294967295 - s) (l.take k) (by omega)
    by_cases hlt : k < n
    · obtain ⟨b, off, rfl, hc1⟩ := HX.out k hlt
      have hv := hl.at k
      have HS := Lib.hid (show wordsC (4294967295 - s) (l.take (k + 1)) = wordC (wordsC (4294967295 - s) (l.take k)) (l[k]?.getD 0) 8 by
        rw [List.take_succ_eq_append_getElem (by rw [HN.out]; exact hlt), wordsC_snoc, List.getElem?_eq_getElem (by rw [HN.out]; exact hlt)]; rfl)
      obtain ⟨v, ev⟩ : ∃ v, l[k]?.getD 0 = v := ⟨_, rfl⟩
      rw [ev] at hc1 hv HS
      clear ev
      have k1 : (k : Int) < (n : Int) := by omega
      go_wp2_with fail
      refine (refWord_any _ _ _ hs' hv).mono ?_
      rintro e w' ⟨rfl, rfl⟩
      go_wp2_with fail
      go_round
      case rel => exact ⟨k + 1, by omega, by go_num, by rw [HS.out]⟩
      case measure => simp [intOf]; omega
    · obtain rfl : k = n := by omega
      go_wp2_with fail
      go_ret
      refine ⟨ret_int ?_, rfl⟩
      rw [not32 _ hs', List.take_of_length_le (by rw [HN.out]; exact Nat.le_refl _)]
      rfl
theorem extendC_lt (s : Nat) (l : List Nat) : extendC s l < 4294967296 := by unfold extendC; omega
set_option maxHeartbeats 400000 in
theorem refWords_sum (A : Option Addr) (c n : Nat) (l : List Nat) (w : World) (hn : l.length = n) (hA : Reads w A (uv l)) (hl : W64 l) (hlen : n ≤ 1000000) :
    Calls Tryz.prog 80 #[.slice A n c] w fun e w' => e = .returned (.int .u32 ((extendC 0 l : Nat) : Int)) ∧ w = w' := by
  go_enter Tryz.func80, Tryz.ntmps80
  go_wp2_with fail
  refine (refExtend_any 0 A c n l w hn hA hl hlen (by omega)).mono ?_
  rintro e w' ⟨rfl, rfl⟩
  go_wp2_with fail
  go_ret
  exact ⟨rfl, rfl⟩
theorem short_val (s : Nat) (h : s < 4294967296) : bits .xor .u16 ((s : Int) / 65536) (IntKind.u16.wrap (s : Int)) = ((shortC s : Nat) : Int) := by
  have e1 : (s : Int) / 65536 = (((s >>> 16) % 65536 : Nat) : Int) := by
    rw [Nat.shiftRight_eq_div_pow]; omega
  have e2 : IntKind.u16.wrap (s : Int) = ((s % 65536 : Nat) : Int) := by rw [IntKind.wrap_u16]; omega
  rw [show (65536 : Int) = ((65536 : Nat) : Int) from rfl, e1, e2, u16_xor_nat _ _ (Nat.mod_lt _ (by omega)) (Nat.mod_lt _ (by omega))]
  rfl
set_option maxHeartbeats 400000 in
theorem refShort_any (s : Nat) (w : World) (h : s < 4294967296) :
    Calls Tryz.prog 79 #[.int .u32 (s : Int)] w fun e w' => e = .returned (.int .u16 ((shortC s : Nat) : Int)) ∧ w = w' := by
  have H := Lib.hid (short_val s h)
  go_enter Tryz.func79, Tryz.ntmps79
  go_wp2_with fail
  go_ret
  exact ⟨ret_int H.out, rfl⟩
set_option maxHeartbeats 400000 in
theorem short_any (s : Nat) (w : World) (h : s < 4294967296) :
    Calls Tryz.prog 105 #[.int .u32 (s : Int)] w fun e w' => e = .returned (.int .u16 ((shortC s : Nat) : Int)) ∧ w = w' := by
  have H := Lib.hid (short_val s h)
  go_enter Tryz.func105, Tryz.ntmps105
  go_wp2_with fail
  go_ret
  exact ⟨ret_int H.out, rfl⟩
end Go.Proofs.YtogchafnnkajfaaGreat
namespace Go.Proofs.YtogchafnnkajfaaGreat
set_option linter.unusedVariables false
open Go.RowKit
def tabTo (k : Nat) : List Value := (List.range 256).map fun i => Value.int .u32 (((if i < k then step8 i else 0) : Nat) : Int)
theorem tabTo_length (k : Nat) : (tabTo k).length = 256 := by simp [tabTo]
theorem tabTo_at (k i : Nat) (h : i < 256) : (tabTo k)[i]? = some (.int .u32 (((if i < k then step8 i else 0) : Nat) : Int)) := by simp [tabTo, h]
theorem tabTo_succ (k : Nat) (h : k < 256) : (tabTo k).set k (.int .u32 ((step8 k : Nat) : Int)) = tabTo (k + 1) := by
  refine List.ext_getElem? fun i => ?_
  by_cases hi : i < 256
  · rw [List.getElem?_set, tabTo_at _ _ hi, tabTo_at _ _ hi, tabTo_length]
    by_cases e : k = i
    · subst e; simp [h]
    · have : (i < k + 1) = (i < k) := by apply propext; omega
      simp [e, this]
  · rw [List.getElem?_eq_none (by rw [List.length_set, tabTo_length]; omega), List.getElem?_eq_none (by rw [tabTo_length]; omega)]
theorem tabTo_zero : Tryz.zeroCells209 = (tabTo 0).toArray := by kernel_rfl
theorem grownBy_setRow (W : World) (b : Nat) (cs : Array Value) : W.grownBy (W.setRow b cs) (some b) :=
  ⟨rfl, rfl, rfl, by simp [World.setRow], fun k _ hk => by
    show (W.heap.modify b _)[k]? = _
    rw [Array.getElem?_modify, if_neg (fun e => hk (by rw [e]))]⟩
set_option maxRecDepth 100000 in
set_option maxHeartbeats 1000000 in
theorem newTable_any (w : World) :
    Calls Tryz.prog 156 #[] w fun e w' => e = .returned (.agg (tabTo 256).toArray) ∧ Below w.heap.size w w' := by
  go_enter Tryz.func156, Tryz.ntmps156
  go_wp2
  have h0 : ((w.alloc (Obj.cells Tryz.zeroCells209 209)).alloc (Obj.cells Tryz.zeroCells209 209)).heap[w.heap.size]? = some (.cells (tabTo 0).toArray 209 (0, 0)) := by
    rw [tabTo_zero, heap_alloc_old _ _ (by simp)]
    exact heap_alloc_new w _
  have h1 : ((w.alloc (Obj.cells Tryz.zeroCells209 209)).alloc (Obj.cells Tryz.zeroCells209 209)).heap[w.heap.size + 1]? = some (.cells (tabTo 0).toArray 209 (0, 0)) := by
    rw [tabTo_zero]
    have := heap_alloc_new (w.alloc (Obj.cells (tabTo 0).toArray 209)) (Obj.cells (tabTo 0).toArray 209)
    rw [World.size_alloc] at this
    exact this
  have hb : Below w.heap.size w ((w.alloc (Obj.cells Tryz.zeroCells209 209)).alloc (Obj.cells Tryz.zeroCells209 209)) := ((Below.refl _ w).alloc (Nat.le_refl _) _).alloc (by simp) _
  generalize ((w.alloc (Obj.cells Tryz.zeroCells209 209)).alloc (Obj.cells Tryz.zeroCells209 209)) = W at h0 h1 hb ⊢
  go_loopw [4] (fun i wr => ∃ k : Nat, k ≤ 256 ∧ i = .int .i64 k ∧ wr.heap[w.heap.size]? = some (.cells (tabTo 0).toArray 209 (0, 0)) ∧ wr.heap[w.heap.size + 1]? = some (.cells (tabTo k).toArray 209 (0, 0)) ∧ Below w.heap.size w wr) (fun i _ => 256 - (intOf i).toNat)
  case atStart => exact ⟨0, Nat.zero_le _, rfl, h0, h1, hb⟩
  case round =>
    obtain ⟨k, hk, rfl, g0, g1, hB⟩ := hrel
    have G0 := Lib.hid g0
    have G1 := Lib.hid g1
    clear h0 h1 hb
    by_cases hlt : k < 256
    · have hl' : (k : Int) < 256 := by omega
      have hw32 : IntKind.u32.wrap (k : Int) = (k : Int) := by rw [IntKind.wrap_u32]; omega
      have hc := cell_of_row wr (w.heap.size + 1) k _ _ _ g1
      have hf := frozen_of_row wr (w.heap.size + 1) k _ _ g1
      clear g0 g1
      rw [show (tabTo k).toArray[k]? = (tabTo k)[k]? by simp, tabTo_at k k hlt] at hc
      go_wp2_with fail
      go_loop [3, 9] (fun r j => ∃ t : Nat, t ≤ 8 ∧ j = .int .i64 (t : Int) ∧ r = .int .u32 ((stepN t k : Nat) : Int)) (fun _ j => 8 - (intOf j).toNat)
      case atStart => exact ⟨0, Nat.zero_le _, rfl, rfl⟩
      case round =>
        obtain ⟨t, ht, rfl, rfl⟩ := hrel
        have hs := stepN_lt t k (by omega)
        by_cases h8 : t < 8
        · have h8' : (t : Int) < 8 := by omega
          have hS : stepN (t + 1) k = stepC (stepN t k) := rfl
          obtain ⟨x, ex⟩ : ∃ x, stepN t k = x := ⟨_, rfl⟩
          rw [ex] at hs hS ⊢
          have HS := Lib.hid hS
          clear ex hS
          have h0 := and_one32 x hs
          by_cases h : x % 2 = 1
          · have h1 : bits .and .u32 (x : Int) 1 = 1 := by rw [h0, h]; rfl
            have H := Lib.hid h
            clear h0 h
            go_wp2_with fail
            go_round
            case rel =>
              refine ⟨t + 1, by omega, by go_num, ?_⟩
              rw [HS.out, step_odd x H.out, ← u32_xor_nat _ _ (shr1_lt x hs) (by omega), Nat.shiftRight_eq_div_pow]
              rfl
            case measure => simp [intOf]; omega
          · have h1 : (bits .and .u32 (x : Int) 1 == 1) = false := by rw [h0]; simp; omega
            have h2 : ¬ bits .and .u32 (x : Int) 1 = 1 := by simpa using h1
            have H := Lib.hid h
            clear h0 h
            go_wp2_with fail
            go_round
            case rel =>
              refine ⟨t + 1, by omega, by go_num, ?_⟩
              rw [HS.out, step_even x H.out, Nat.shiftRight_eq_div_pow]
              rfl
            case measure => simp [intOf]; omega
        · obtain rfl : t = 8 := by omega
          go_wp2_with fail
          refine ⟨⟨k + 1, by omega, by go_num, (Below.heap_setCell _ _ _ _ (by show _ ≠ _ + 1; omega)).trans G0.out, ?_, hB.setCell (p := ⟨w.heap.size + 1, k, none⟩) (by show _ ≤ _ + 1; omega) _⟩, by simp [intOf]; omega⟩
          have := heap_setCell_same wr (w.heap.size + 1) k _ 209 (.int .u32 ((stepN 8 k : Nat) : Int)) G1.out
          rw [← tabTo_succ k hlt]
          rw [this]
          simp [step8]
    · obtain rfl : k = 256 := by omega
      have hi : (Tryz.prog.info? 209).map (·.size) = some (tabTo 256).length := by rw [tabTo_length]; kernel_rfl
      have hi2 : (Tryz.prog.info? 209).map (·.size) = some (tabTo 256).toArray.size := by rw [hi]; simp
      have hr1 : wr.rangeAt (w.heap.size + 1) 0 (tabTo 256) := by
        intro j v hv
        have := cell_of_row wr (w.heap.size + 1) (0 + j) _ _ _ g1
        rw [this, Nat.zero_add]
        simpa using hv
      have h1c : (tabTo 256).toArray.all (·.oneCell') = true := all_oneCell_toArray (by
        intro v hv
        obtain ⟨i, _, rfl⟩ := List.mem_map.1 hv
        rfl)
      have hst : (storeCells ⟨w.heap.size, 0, none⟩ (tabTo 256)).run Tryz.prog wr = .ok () (wr.setRow w.heap.size (tabTo 256).toArray) := by
        have := run_storeVar_row (P := Tryz.prog) wr w.heap.size 209 209 _ (tabTo 256).toArray g0 hi2 (by simp [tabTo]) h1c
        cases hq : Tryz.prog.info? 209 with
        | none => rw [hq] at hi2; simp at hi2
        | some i =>
          have hs : (tabTo 256).length = i.size := by rw [hq] at hi; simp at hi; omega
          simpa [storeVar, sizeOf, typeInfo, hq, Value.cells, hs] using this
      have hg2 := setRow_heap wr w.heap.size _ (tabTo 256).toArray 209 _ g0
      have hB2 : Below w.heap.size w (wr.setRow w.heap.size (tabTo 256).toArray) := hB.grown (row := some w.heap.size) (grownBy_setRow wr w.heap.size _) hB.size (by intro r e; cases e; exact Nat.le_refl _)
      have HI := Lib.hid hi
      have HI2 := Lib.hid hi2
      have HR := Lib.hid hr1
      have HG := Lib.hid hg2
      clear g0 g1 hi hi2 hr1 h1c hg2
      go_wp2_with fail
      refine wp_load_mid 209 _ rfl (w.heap.size + 1) 0 rfl (tabTo 256) _ HR.out Tryz.underlying209 rfl HI.out ?_
      go_wp2_with fail
      refine bodyPost_ret (results_cell_row rfl _ _ w.heap.size 209 _ (0, 0) _ rfl HG.out Tryz.underlying209 rfl HI2.out) rfl ?_
      exact ⟨rfl, hB2⟩
end Go.Proofs.YtogchafnnkajfaaGreat
namespace Go.Proofs.YtogchafnnkajfaaGreat
set_option linter.unusedVariables false
open Go.RowKit Go.Shelf
attribute [local go_sem] Oper.semAt_some
abbrev encB (x : Fin 256) : Array Value := #[.int .u8 (x.val : Int)]
def byteOf (l : List Nat) (i : Nat) : Fin 256 := ⟨byteC (l[i / 8]?.getD 0) (i % 8), byteC_lt _ _⟩
set_option maxRecDepth 100000 in
set_option maxHeartbeats 1000000 in
theorem spread1_in (F : Fence) (n : Nat) (h35 : F.fn 161) (hro : F.round = none) (hn : 1 ≤ n) (l Bs n₀ : Nat) (A : Option Addr) (cap : Nat) (ws : List Nat) (hw : W64 ws)
    (hlen : ws.length ≤ 1000000) (J Jx : List (Fin 256) → World → Prop)
    (hY : ∀ pre x W, J pre W → pre.length < 8 * ws.length → YieldAt F (n - 1) Tryz.prog l (encB x) W fun e W' =>
      (e = .returned (.bool true) ∧ J (pre ++ [x]) W' ∧ KeepB n₀ Bs W W') ∨ (e = .returned (.bool false) ∧ Jx (pre ++ [x]) W'))
    (W : World) (hBs : W.cell? ⟨Bs, 0, none⟩ = some (.slice A ws.length cap))
    (hA : ∀ i, i < ws.length → ∃ b off, A = some ⟨b, off, none⟩ ∧ b < n₀ ∧ W.cell? ⟨b, off + i, none⟩ = some (.int .u64 ((ws[i]?.getD 0 : Nat) : Int))) (h0 : J [] W) :
    CallsIn F n Tryz.prog 161 #[.func (.yield l) #[] #[], .pointer (some ⟨Bs, 0, none⟩)] W fun e W' => (∃ v, e = .returned v) ∧
      ((∃ ys, ys = upto (byteOf ws) (8 * ws.length) ∧ J ys W') ∨ (∃ pre, (∃ k, k ≤ 8 * ws.length ∧ pre = upto (byteOf ws) k) ∧ Jx pre W')) := by
  obtain ⟨m, hm⟩ : ∃ m, ws.length = m := ⟨_, rfl⟩
  have HM := Lib.hid hm
  rw [hm] at hlen hBs hA hY ⊢
  clear hm
  have HA := Lib.hid hA
  clear hA
  refine callsIn_of_wp Tryz.func161 rfl h35 ?_ hro
  simp only [Tryz.ntmps161, List.size_toArray, List.length_cons, List.length_nil, Nat.reduceAdd, Nat.reduceSub, Array.replicate_succ, Array.replicate_zero, List.push_toArray, List.append_toArray, List.nil_append, List.cons_append]
  gi_wp2
  gi_loopw [8] (fun i wr => ∃ k : Nat, k ≤ m ∧ i = .int .i64 k ∧ J (upto (byteOf ws) (8 * k)) wr ∧ KeepB n₀ Bs W wr) (fun i _ => m - (intOf i).toNat)
  case atStart => exact ⟨0, Nat.zero_le _, rfl, h0, KeepB.refl _ _ _⟩
  case round =>
    obtain ⟨k, hk, rfl, hJs, hnx⟩ := hrel
    by_cases hlt : k < m
    · obtain ⟨b, off, rfl, hb, hc1⟩ := HA.out k hlt
      have hc2 := (hnx.below.cell (p := ⟨b, off + k, none⟩) hb).trans hc1
      have hv := hw.at k
      obtain ⟨v, ev⟩ : ∃ v, ws[k]?.getD 0 = v := ⟨_, rfl⟩
      rw [ev] at hc2 hv
      have EV := Lib.hid ev
      clear ev hc1
      gi_wp2
      gi_loopw [12] (fun i wr2 => ∃ t : Nat, t ≤ 8 ∧ i = .int .i64 t ∧ J (upto (byteOf ws) (8 * k + t)) wr2 ∧ KeepB n₀ Bs W wr2) (fun i _ => 8 - (intOf i).toNat)
      case atStart => exact ⟨0, Nat.zero_le _, rfl, hJs, hnx⟩
      case round =>
        obtain ⟨t, ht, rfl, hJt, hnt⟩ := hrel
        by_cases h8 : t < 8
        · have h8' : (t : Int) < 8 := by omega
          have e8 : ((8 : Int) * (t : Int)).toNat = 8 * t := by omega
          have hby := byte_wrap v (8 * t)
          obtain ⟨fn, tmps, assign, body, hy, hR⟩ := hY _ (byteOf ws (8 * k + t)) _ hJt (by rw [upto_length]; omega)
          have e1 : ((byteOf ws (8 * k + t)).val : Int) = ((v >>> (8 * t) % 256 : Nat) : Int) := by
            show ((byteC (ws[(8 * k + t) / 8]?.getD 0) ((8 * k + t) % 8) : Nat) : Int) = _
            rw [show (8 * k + t) / 8 = k by omega, show (8 * k + t) % 8 = t by omega, EV.out]
            rfl
          obtain ⟨y, ey⟩ : ∃ y, v >>> (8 * t) % 256 = y := ⟨_, rfl⟩
          rw [ey] at e1 hby
          have hy' : _ := hy
          simp only [encB, e1] at hy'
          clear hy e1 ey
          gi_wp2
          refine hR.mono ?_
          rintro e W3 (⟨rfl, hJ3, hk3⟩ | ⟨rfl, hJx3⟩)
          · gi_wp2
            go_roundw
            case rel => exact ⟨t + 1, by omega, by simp, by rw [← Nat.add_assoc, upto_succ]; exact hJ3, hnt.trans hk3⟩
            case measure => simp [intOf]; omega
          · gi_wp2
            refine bodyPost_ret (results_none rfl _ _ _) rfl ?_
            exact ⟨⟨_, rfl⟩, .inr ⟨_, ⟨8 * k + t + 1, by omega, (upto_succ _ _).symm⟩, hJx3⟩⟩
        · obtain rfl : t = 8 := by omega
          gi_wp2
          go_roundw
          case rel => exact ⟨k + 1, by omega, by simp, hJt, hnt⟩
          case measure => simp [intOf]; omega
    · obtain rfl : k = m := by omega
      gi_wp2
      go_end0
      exact ⟨⟨_, rfl⟩, .inl ⟨_, rfl, hJs⟩⟩
set_option maxHeartbeats 1000000 in
theorem spread_in (F : Fence) (n : Nat) (h31 : F.fn 158) (hro : F.round = none) (a : Option Addr) (len cap : Nat) (w : World) :
    CallsIn F n Tryz.prog 158 #[.slice a len cap] w fun e w' => e = .returned (.func (.func 161) #[] #[.pointer (some ⟨w.heap.size, 0, none⟩)]) ∧ w.alloc (.cells #[.slice a len cap] 29) = w' := by
  refine callsIn_of_wp Tryz.func158 rfl h31 ?_ hro
  simp only [Tryz.ntmps158, List.size_toArray, List.length_cons, List.length_nil, Nat.reduceAdd, Nat.reduceSub, Array.replicate_succ, Array.replicate_zero, List.push_toArray, List.append_toArray, List.nil_append, List.cons_append]
  gi_wp2
  go_ret
  exact ⟨rfl, rfl⟩
theorem spread_stops (F : Fence) (n : Nat) (h35 : F.fn 161) (hro : F.round = none) (hn : 1 ≤ n) (Bs n₀ : Nat) (A : Option Addr) (cap : Nat) (ws : List Nat) (hw : W64 ws)
    (hlen : ws.length ≤ 1000000) (w : World) (hBs : Bs < w.heap.size) (hn₀ : n₀ ≤ w.heap.size)
    (hc : w.cell? ⟨Bs, 0, none⟩ = some (.slice A ws.length cap))
    (hA : ∀ i, i < ws.length → ∃ b off, A = some ⟨b, off, none⟩ ∧ b < n₀ ∧ w.cell? ⟨b, off + i, none⟩ = some (.int .u64 ((ws[i]?.getD 0 : Nat) : Int))) :
    SeqStopsK F n Tryz.prog 161 #[.pointer (some ⟨Bs, 0, none⟩)] encB (KeepB n₀ Bs) (fun ys => ys = upto (byteOf ws) (8 * ws.length))
      (fun pre => ∃ k, k ≤ 8 * ws.length ∧ pre = upto (byteOf ws) k) (8 * ws.length) w := fun l J Jx W hW _ _ hY h0 =>
  spread1_in F n h35 hro hn l Bs n₀ A cap ws hw hlen J Jx hY W ((hW.cell (p := ⟨Bs, 0, none⟩) (by show Bs < _; omega)).trans hc) (fun i hi => by
    obtain ⟨b, off, e, hb, h⟩ := hA i hi
    exact ⟨b, off, e, hb, (hW.cell (p := ⟨b, off + i, none⟩) (by show b < _; omega)).trans h⟩) h0
end Go.Proofs.YtogchafnnkajfaaGreat
namespace Go.Proofs.YtogchafnnkajfaaGreat
set_option linter.unusedVariables false
open Go.RowKit Go.Shelf
attribute [local go_sem] Oper.semAt_some
def foldB (x : Nat) (pre : List (Fin 256)) : Nat := pre.foldl (fun x b => feedC x b.val) x
theorem foldB_snoc (x : Nat) (pre : List (Fin 256)) (b : Fin 256) : foldB x (pre ++ [b]) = feedC (foldB x pre) b.val := by simp [foldB]
theorem foldB_lt (x : Nat) (pre : List (Fin 256)) (h : x < 4294967296) : foldB x pre < 4294967296 := by
  induction pre generalizing x with
  | nil => exact h
  | cons b pre ih => exact ih _ (feedC_lt _ _ h b.isLt)
theorem foldB_part (x : Nat) (ws : List Nat) (k : Nat) (hk : k < ws.length) (h : foldB x (upto (byteOf ws) (8 * k)) = wordsC x (ws.take k)) :
    ∀ t, t ≤ 8 → foldB x (upto (byteOf ws) (8 * k + t)) = wordC (wordsC x (ws.take k)) (ws[k]?.getD 0) t
  | 0, _ => h
  | t + 1, ht => by
    rw [← Nat.add_assoc, upto_succ, foldB_snoc, foldB_part x ws k hk h t (by omega)]
    show feedC _ (byteC (ws[(8 * k + t) / 8]?.getD 0) ((8 * k + t) % 8)) = _
    rw [show (8 * k + t) / 8 = k by omega, show (8 * k + t) % 8 = t by omega]
    rfl
theorem foldB_words (x : Nat) (ws : List Nat) : ∀ k, k ≤ ws.length → foldB x (upto (byteOf ws) (8 * k)) = wordsC x (ws.take k)
  | 0, _ => by simp [foldB, upto, wordsC]
  | k + 1, h => by
    have := foldB_part x ws k (by omega) (foldB_words x ws k (by omega)) 8 (by omega)
    rw [show 8 * (k + 1) = 8 * k + 8 by omega, this, List.take_succ_eq_append_getElem (by omega), wordsC_snoc, List.getElem?_eq_getElem (by omega)]
    rfl
theorem foldB_all (x : Nat) (ws : List Nat) : foldB x (upto (byteOf ws) (8 * ws.length)) = wordsC x ws := by
  rw [foldB_words x ws _ (Nat.le_refl _), List.take_length]
set_option maxRecDepth 100000 in
set_option maxHeartbeats 1000000 in
theorem run_any (T Bs : Nat) (x : Nat) (A : Option Addr) (c : Nat) (ws : List Nat) (w : World) (hA : Reads w A (uv ws)) (hw : W64 ws) (hlen : ws.length ≤ 1000000) (hx : x < 4294967296)
    (hT : w.heap[T]? = some (.cells (tabTo 256).toArray 209 (0, 0))) (hBs : w.cell? ⟨Bs, 0, none⟩ = some (.slice A ws.length c)) :
    Calls Tryz.prog 157 #[.pointer (some ⟨T, 0, none⟩), .int .u32 (x : Int), .func (.func 161) #[] #[.pointer (some ⟨Bs, 0, none⟩)]] w fun e w' => e = .returned (.int .u32 ((wordsC x ws : Nat) : Int)) ∧ Below w.heap.size w w' := by
  refine (callsIn_wide (n := 6)).1 ?_
  have hBl : Bs < w.heap.size := World.block_lt_of_cell? _ _ hBs
  have hTl : T < w.heap.size := (Array.getElem?_eq_some_iff.1 hT).1
  have hci : ∀ i, i < ws.length → ∃ b off, A = some ⟨b, off, none⟩ ∧ b < w.heap.size ∧ w.cell? ⟨b, off + i, none⟩ = some (.int .u64 ((ws[i]?.getD 0 : Nat) : Int)) := by
    intro i hi
    obtain ⟨b, off, e, hb, hc⟩ := hA.u (by omega)
    exact ⟨b, off, e, hb, hc i (by omega)⟩
  have HT := Lib.hid hT
  have HI := Lib.hid hci
  have HBS := Lib.hid hBs
  clear hT hci hA hBs
  refine callsIn_of_wp_marks Tryz.func157 rfl trivial ?_ rfl
  simp only [Tryz.ntmps157, List.size_toArray, List.length_cons, List.length_nil, Nat.reduceAdd, Nat.reduceSub, Array.replicate_succ, Array.replicate_zero, List.push_toArray, List.append_toArray, List.nil_append, List.cons_append]
  gi_wp2_with fail
  have b0 := (Boxed.new w 217 (.pointer (some ⟨T, 0, none⟩))).alloc (.cells #[.int .u32 (x : Int)] 142)
  have b1 := Boxed.new (w.alloc (.cells #[.pointer (some ⟨T, 0, none⟩)] 217)) 142 (.int .u32 (x : Int))
  have hb : Below w.heap.size w ((w.alloc (.cells #[.pointer (some ⟨T, 0, none⟩)] 217)).alloc (.cells #[.int .u32 (x : Int)] 142)) := ((Below.refl _ w).alloc (Nat.le_refl _) _).alloc (by simp) _
  simp only [World.size_alloc] at b0 b1
  obtain ⟨W0, hW0⟩ : ∃ W0, ((w.alloc (.cells #[.pointer (some ⟨T, 0, none⟩)] 217)).alloc (.cells #[.int .u32 (x : Int)] 142)) = W0 := ⟨_, rfl⟩
  have hsz : W0.heap.size = w.heap.size + 1 + 1 := by rw [← hW0]; simp
  rw [hW0] at b0 b1 hb ⊢
  clear hW0
  refine wpIn_rangeFunc_ownG rfl (by omega) (gf := 161) (lb := #[.pointer (some ⟨Bs, 0, none⟩)]) rfl trivial (enters_of Tryz.func161 (by kernel_rfl) rfl)
    (spread_stops Fence.wide 5 trivial rfl (by omega) Bs w.heap.size A c ws hw hlen W0 (by omega) (by omega) ((hb.cell (p := ⟨Bs, 0, none⟩) hBl).trans HBS.out)
      (fun i hi => by
        obtain ⟨b, off, e, hlt, h⟩ := HI.out i hi
        exact ⟨b, off, e, hlt, (hb.cell (p := ⟨b, off + i, none⟩) hlt).trans h⟩))
    KeepB.trans (KeepB.putObj (by omega) (by omega)) (Below.refl _ _) (fun _ => rfl)
    (fun pre W => (Boxed W w.heap.size 217 (.pointer (some ⟨T, 0, none⟩)) ∧ Boxed W (w.heap.size + 1) 142 (.int .u32 ((foldB x pre : Nat) : Int))) ∧ Below w.heap.size w W)
    (fun _ _ _ => False)
    (OwnFrom.and (Own.from (fun s A B row hs hg hr => ⟨boxed_own _ _ (fun _ => _) s A B row hs.1 hg hr, boxed_own _ _ (fun _ => _) s A B row hs.2 hg hr⟩) _) (ownFrom_below (Nat.le_refl _) (by omega)))
    (fun c s A B row hs hg hr => hs)
    ⟨⟨b0, b1⟩, hb⟩
    (fun b => { tmps := #[.pointer (some ⟨T, 0, none⟩), .int .u32 (x : Int), .func (.func 161) #[] #[.pointer (some ⟨Bs, 0, none⟩)], .pointer (some ⟨w.heap.size, 0, none⟩), .pointer (some ⟨w.heap.size + 1, 0, none⟩), undef, .int .u32 0,
      .int .u8 (b.val : Int), .func (.func 161) #[] #[.pointer (some ⟨Bs, 0, none⟩)], .int .u8 (b.val : Int), undef, undef, undef, undef, undef, undef, undef, undef, undef, undef, undef, undef], defers := [] }) ?assign ?body ?done ?stop
  case assign =>
    intro l f W K hK
    gi_wp2
    exact hK
  case body =>
    rintro l pre b W ⟨⟨c0, c1⟩, hB⟩ hlt
    have hmix : Tryz.prog.follows .mixedOrders = true := by kernel_rfl
    have hbl := b.isLt
    have hr := foldB_lt x pre hx
    have hz := u8_xor_nat (foldB x pre % 256) b.val (Nat.mod_lt _ (by omega)) hbl
    have hzl : (foldB x pre % 256) ^^^ b.val < 256 := Nat.xor_lt_two_pow (n := 8) (Nat.mod_lt _ (by omega)) hbl
    have hp : IntKind.u8.wrap ((foldB x pre : Nat) : Int) = ((foldB x pre % 256 : Nat) : Int) := by rw [IntKind.wrap_u8]; omega
    have hnew := foldB_snoc x pre b
    rw [feedC_table _ _ hbl] at hnew
    have hTW := (hB.block T hTl).trans HT.out
    have ht8 := stepN_lt 8 ((foldB x pre % 256) ^^^ b.val) (by omega)
    have hct := cell_of_row W T ((foldB x pre % 256) ^^^ b.val) _ _ _ hTW
    rw [show (tabTo 256).toArray[(foldB x pre % 256) ^^^ b.val]? = (tabTo 256)[(foldB x pre % 256) ^^^ b.val]? by simp, tabTo_at 256 _ hzl, if_pos hzl] at hct
    obtain ⟨bv, ebv⟩ : ∃ bv, b.val = bv := ⟨_, rfl⟩
    obtain ⟨R, eR⟩ : ∃ R, foldB x pre = R := ⟨_, rfl⟩
    obtain ⟨p, ep⟩ : ∃ p, R % 256 = p := ⟨_, rfl⟩
    rw [eR, ebv] at hz hzl hnew hct ht8
    rw [eR] at c1 hr hp
    rw [ep] at hz hzl hp hnew hct ht8
    rw [ebv] at hbl ⊢
    obtain ⟨z, ez⟩ : ∃ z, p ^^^ bv = z := ⟨_, rfl⟩
    rw [ez] at hz hzl hnew hct ht8
    obtain ⟨V, eV⟩ : ∃ V, step8 z = V := ⟨_, rfl⟩
    rw [eV] at hnew hct
    change stepN 8 z < _ at ht8
    rw [show stepN 8 z = V from eV] at ht8
    have HNEW := Lib.hid hnew
    have d0 := c0.cell
    have d1 := c1.cell
    have d1' := c1.frozen
    have z0 : (0 : Int) ≤ (z : Int) := by omega
    have z1 : (z : Int) < 256 := by omega
    clear hnew eV ez ep eR ebv hTW
    gi_wp2
    refine wpIn_region_still_tail 11 hmix (by kernel_rfl) (by rintro ⟨_, _, h⟩; exact h) (by kernel_rfl) ?_
    simp only [List.take_succ_cons, List.take_zero, List.drop_succ_cons, List.drop_zero]
    repeat still_step
    refine wpStill_nil ?_
    go_wp2
    have hv : bits .xor .u32 (V : Int) ((R : Int) / 256) = ((foldB x (pre ++ [b]) : Nat) : Int) := by
      rw [HNEW.out, ← u32_xor_nat V (R >>> 8) ht8 (Nat.lt_of_le_of_lt (Nat.shiftRight_le _ _) hr), Nat.shiftRight_eq_div_pow]
      rfl
    rw [hv]
    exact ⟨((KeepsOthers.setCell W ⟨w.heap.size + 1, 0, none⟩ _).trans (KeepsOthers.drew _)).from _, ((KeepB.refl w.heap.size Bs W).setCell (b := w.heap.size + 1) (i := 0) (by omega) (by omega) _).drew,
      ⟨c0.other (by omega) _, c1.set _⟩, (hB.setCell (p := ⟨w.heap.size + 1, 0, none⟩) (by show _ ≤ _ + 1; omega) _).drew⟩
  case done =>
    rintro D ys W hD rfl ⟨⟨c0, c1⟩, hB⟩ hK
    have d1 := c1.cell
    rw [foldB_all] at d1
    gi_wp2
    refine ⟨by simp, .inl ⟨_, _, rfl, run_takeDeferred hK, ?_⟩⟩
    refine ⟨.int .u32 ((wordsC x ws : Nat) : Int), by simp [results, Tryz.f157, go_sem], rfl, hB.trans (belowK_b (w := w) (Nat.le_refl _) W D _ _ (by omega) hK rfl rfl)⟩
  case stop =>
    rintro D c pre W _ _ h _
    exact h.elim
theorem store_table (w : World) : (storeCells ⟨w.heap.size, 0, none⟩ (tabTo 256).toArray.toList).run Tryz.prog (w.alloc (.cells Tryz.zeroCells209 209)) = .ok () (w.alloc (.cells (tabTo 256).toArray 209)) := by
  have hi : (Tryz.prog.info? 209).map (·.size) = some (tabTo 256).toArray.size := by
    rw [show (tabTo 256).toArray.size = 256 by simp [tabTo]]; kernel_rfl
  have h1c : (tabTo 256).toArray.all (·.oneCell') = true := all_oneCell_toArray (by
    intro v hv
    obtain ⟨i, _, rfl⟩ := List.mem_map.1 hv
    rfl)
  have := run_storeCells_new (P := Tryz.prog) w 209 Tryz.zeroCells209 (tabTo 256).toArray hi (by rw [tabTo_zero]; simp [tabTo]) h1c
  exact this
set_option maxRecDepth 100000 in
set_option maxHeartbeats 1000000 in
theorem extend_any (s : Nat) (A : Option Addr) (c n : Nat) (l : List Nat) (w : World) (hn : l.length = n) (hA : Reads w A (uv l)) (hl : W64 l) (hlen : n ≤ 1000000) (hs : s < 4294967296) :
    Calls Tryz.prog 144 #[.int .u32 (s : Int), .slice A n c] w fun e w' => e = .returned (.int .u32 ((extendC s l : Nat) : Int)) ∧ Below w.heap.size w w' := by
  have HN := Lib.hid hn
  have hns := not32 s hs
  go_enter Tryz.func144, Tryz.ntmps144
  go_wp2_with fail
  refine (newTable_any w).mono ?_
  rintro e w1 ⟨rfl, hb1⟩
  have hst := store_table w1
  obtain ⟨cs, ecs⟩ : ∃ cs, (tabTo 256).toArray = cs := ⟨_, rfl⟩
  have ECS := Lib.hid ecs
  have hcz : cs.size = 256 := by rw [← ecs]; simp [tabTo]
  rw [ecs] at hst ⊢
  clear ecs
  go_wp2_with fail
  have rA1 := hA.keep hb1
  have hT : (w1.alloc (.cells cs 209)).heap[w1.heap.size]? = some (.cells cs 209 (0, 0)) := heap_alloc_new w1 _
  have hb2 : Below w.heap.size w (w1.alloc (.cells cs 209)) := hb1.alloc hb1.size _
  have hg2 : w1.heap.size < (w1.alloc (.cells cs 209)).heap.size := by simp
  clear hst hA
  have rA2 := rA1.alloc (.cells cs 209)
  generalize w1.alloc (.cells cs 209) = w2 at hT hb2 hg2 rA2 ⊢
  generalize w1.heap.size = T at hT hg2 ⊢
  refine ((callsIn_wide (n := 6)).1 (spread_in Fence.wide 6 trivial rfl _ _ _ _)).mono ?_
  rintro e w3 ⟨rfl, rfl⟩
  go_wp2_with fail
  refine (run_any T w2.heap.size (4294967295 - s) A c l _ (rA2.alloc _) hl (by rw [HN.out]; exact hlen) (by omega) ((heap_alloc_old _ _ hg2).trans (by rw [ECS.out]; exact hT)) (by rw [HN.out]; exact (Boxed.new w2 _ _).cell)).mono ?_
  rintro e w4 ⟨rfl, hb4⟩
  have hwl := wordsC_lt (4294967295 - s) l (by omega)
  have hn2 := not32 _ hwl
  go_wp2_with fail
  go_ret
  refine ⟨ret_int rfl, hb2.trans (((Below.refl _ w2).alloc (by have := hb2.size; omega) _).trans (hb4.mono (by have := hb2.size; simp; omega)))⟩
set_option maxHeartbeats 400000 in
theorem words_sum (A : Option Addr) (c n : Nat) (l : List Nat) (w : World) (hn : l.length = n) (hA : Reads w A (uv l)) (hl : W64 l) (hlen : n ≤ 1000000) :
    Calls Tryz.prog 106 #[.slice A n c] w fun e w' => e = .returned (.int .u32 ((extendC 0 l : Nat) : Int)) ∧ Below w.heap.size w w' := by
  go_enter Tryz.func106, Tryz.ntmps106
  go_wp2_with fail
  refine (extend_any 0 A c n l w hn hA hl hlen (by omega)).mono ?_
  rintro e w' ⟨rfl, hb⟩
  go_wp2_with fail
  go_ret
  exact ⟨rfl, hb⟩
end Go.Proofs.YtogchafnnkajfaaGreat
namespace Go.Proofs.YtogchafnnkajfaaGreat
set_option linter.unusedVariables false
open Go.RowKit
theorem own_lower {w : World} {base base' : Nat} {e : TypeId} {size n : Nat} {v : Value} {xs : List Value} (h : w.ownsRow base e size v n xs) (hb : base' ≤ base) : w.ownsRow base' e size v n xs :=
  ⟨h.1, h.2.imp id fun ⟨g, cap, cur, q1, q2, q3⟩ => ⟨g, cap, cur, q1, by omega, q3⟩⟩
def Cs (w : World) (g : Nat) (t : TypeId) (cs : Array Value) : Prop := w.heap[g]? = some (.cells cs t (0, 0))
theorem Cs.lt {w : World} {g : Nat} {t : TypeId} {cs : Array Value} (h : Cs w g t cs) : g < w.heap.size := (Array.getElem?_eq_some_iff.1 h).1
theorem Cs.cell {w : World} {g : Nat} {t : TypeId} {cs : Array Value} (h : Cs w g t cs) (i : Nat) : w.cell? ⟨g, i, none⟩ = cs[i]? := cell_of_row w g i cs t (0, 0) h
theorem Cs.free {w : World} {g : Nat} {t : TypeId} {cs : Array Value} (h : Cs w g t cs) (i : Nat) : w.frozen? ⟨g, i, none⟩ = false := frozen_of_row w g i cs t h
theorem Cs.below {w w' : World} {g B : Nat} {t : TypeId} {cs : Array Value} (h : Cs w g t cs) (hb : Below B w w') (hg : g < B) : Cs w' g t cs := (hb.block g hg).trans h
theorem Cs.new (w : World) (t : TypeId) (cs : Array Value) : Cs (w.alloc (.cells cs t)) w.heap.size t cs := heap_alloc_new w _
theorem Cs.grown {w w' : World} {g : Nat} {t : TypeId} {cs : Array Value} {row : Option Nat} (h : Cs w g t cs) (hg : w.grownBy w' row) (hr : some g ≠ row) : Cs w' g t cs := (hg.block g h.lt hr).trans h
theorem Cs.alloc {w : World} {g : Nat} {t : TypeId} {cs : Array Value} (h : Cs w g t cs) (o : Obj) : Cs (w.alloc o) g t cs := h.below ((Below.refl _ w).alloc (Nat.le_refl _) o) h.lt
theorem own_keepB {w w' : World} {base : Nat} {e : TypeId} {size n : Nat} {v : Value} {xs : List Value} (h : w.ownsRow base e size v n xs) (hb : Below w.heap.size w w') : w'.ownsRow base e size v n xs :=
  ⟨h.1, h.2.imp id fun ⟨g, cap, cur, q1, q2, q3, q4⟩ => ⟨g, cap, cur, q1, q2, (hb.block g (Array.getElem?_eq_some_iff.1 q3).1).trans q3, q4⟩⟩
theorem own_cap {w : World} {base n c : Nat} {e : TypeId} {size : Nat} {A : Option Addr} {xs : List Value} (h : w.ownsRow base e size (.slice A n c) n xs) : n ≤ c := by
  rcases h.2 with ⟨h1, h2⟩ | ⟨g, cap, cur, h1, _, _, h3, _⟩
  · omega
  · injection h1 with _ _ h1; omega
theorem gb_Below {g n0 : Nat} {w A B : World} (hb : Below n0 w A) (h : A.grownBy B (some g)) (hn : n0 ≤ A.heap.size) (hg : n0 ≤ g) : Below n0 w B := hb.grown h hn (fun k e => by injection e with e; omega)
theorem SrcAt.alloc {W : World} {g : Nat} (h : SrcAt W g) (o : Obj) : SrcAt (W.alloc o) g := h.below (B := W.heap.size) ((Below.refl _ W).alloc (Nat.le_refl _) o) h.lt
theorem SrcAt.keep {W W' : World} {g : Nat} (h : SrcAt W g) (hb : Below W.heap.size W W') : SrcAt W' g := h.below hb h.lt
set_option maxHeartbeats 400000 in
theorem pick_any (g b n : Nat) (zs : List Int) (W : World) (h : SrcAt W g) (hn : zs.length = n) (h1 : 1 ≤ n) (hlen : n ≤ 1000) (hb : Cs W b 3 (iv zs).toArray) (hne : b ≠ g) :
    Calls Tryz.prog 49 #[.pointer (some ⟨g, 0, none⟩), .slice (some ⟨b, 0, none⟩) n n] W fun e W' => ∃ r : Int, e = .returned (.int .i64 r) ∧ r ∈ zs ∧ SrcAt W' g ∧ W.grownBy W' (some g) := by
  have HN := Lib.hid hn
  clear hn
  go_enter Tryz.func49, Tryz.ntmps49
  go_wp2_with fail
  refine (n_any g (n : Int) W h (by omega) (by omega)).mono ?_
  rintro e W2 ⟨r, rfl, hr1, hr2, hs, hg⟩
  obtain ⟨j, rfl⟩ : ∃ j : Nat, r = (j : Int) := ⟨r.toNat, by omega⟩
  have hj : j < n := by omega
  have hc := (hb.grown hg (by simpa using hne)).cell j
  rw [List.getElem?_toArray, iv_at zs j (by rw [HN.out]; exact hj)] at hc
  have hmem : zs[j]?.getD 0 ∈ zs := by
    rw [List.getElem?_eq_getElem (by rw [HN.out]; exact hj)]
    exact List.getElem_mem _
  generalize zs[j]?.getD 0 = x at hc hmem
  go_wp2_with fail
  go_ret
  exact ⟨x, rfl, hmem, hs, hg⟩
end Go.Proofs.YtogchafnnkajfaaGreat
namespace Go.Proofs.YtogchafnnkajfaaGreat
set_option linter.unusedVariables false
open Go.RowKit
structure Fr (G : Nat → Prop) (W W' : World) : Prop where
  os : W'.os = W.os
  tape : W'.tape = W.tape
  output : W'.output = W.output
  size : W.heap.size ≤ W'.heap.size
  block : ∀ j, j < W.heap.size → ¬ G j → W'.heap[j]? = W.heap[j]?
theorem Fr.refl (G : Nat → Prop) (W : World) : Fr G W W := ⟨rfl, rfl, rfl, Nat.le_refl _, fun _ _ _ => rfl⟩
theorem Fr.mono {G H : Nat → Prop} {W W' : World} (h : Fr G W W') (hg : ∀ j, j < W.heap.size → G j → H j) : Fr H W W' := ⟨h.os, h.tape, h.output, h.size, fun j hj hn => h.block j hj (fun hc => hn (hg j hj hc))⟩
theorem Fr.trans {G : Nat → Prop} {A B C : World} (h : Fr G A B) (k : Fr G B C) : Fr G A C :=
  ⟨k.os.trans h.os, k.tape.trans h.tape, k.output.trans h.output, Nat.le_trans h.size k.size, fun j hj hn => (k.block j (Nat.lt_of_lt_of_le hj h.size) hn).trans (h.block j hj hn)⟩
theorem Fr.of_below {G : Nat → Prop} {W W' : World} (h : Below W.heap.size W W') : Fr G W W' := ⟨h.os, h.tape, h.output, h.size, fun j hj _ => h.block j hj⟩
theorem Fr.of_grown {g : Nat} {W W' : World} (h : W.grownBy W' (some g)) : Fr (· = g) W W' := ⟨h.os, h.tape, h.output, h.size, fun j hj hn => h.block j hj (by simpa using hn)⟩
theorem Fr.below {G : Nat → Prop} {W W' : World} {n₀ : Nat} (h : Fr G W W') (hn : n₀ ≤ W.heap.size) (hG : ∀ j, G j → n₀ ≤ j) : Below n₀ W W' :=
  ⟨h.os, h.tape, h.output, h.size, fun j hj => h.block j (by omega) (fun hc => by have := hG j hc; omega)⟩
theorem Fr.drew {G : Nat → Prop} {W W' : World} (h : Fr G W W') : Fr G W W'.drew := ⟨h.os, h.tape, h.output, h.size, h.block⟩
theorem Fr.drewN {G : Nat → Prop} {W W' : World} (h : Fr G W W') (n : Nat) : Fr G W (W'.drewN n) := ⟨h.os, h.tape, h.output, h.size, h.block⟩
theorem Fr.undrew {G : Nat → Prop} {W W' : World} (h : Fr G W.drew W') : Fr G W W' := ⟨h.os, h.tape, h.output, h.size, h.block⟩
theorem Fr.set {G : Nat → Prop} {W W' : World} (h : Fr G W W') {b i : Nat} (hb : G b ∨ W.heap.size ≤ b) (u : Value) : Fr G W (W'.setCell ⟨b, i, none⟩ u) :=
  ⟨h.os, h.tape, h.output, by simpa using h.size, fun j hj hn => (Below.heap_setCell _ _ _ j (by show j ≠ b; rintro rfl; rcases hb with hb | hb; exact hn hb; omega)).trans (h.block j hj hn)⟩
theorem Fr.alloc {G : Nat → Prop} {W W' : World} (h : Fr G W W') (o : Obj) : Fr G W (W'.alloc o) := h.trans (Fr.of_below ((Below.refl _ W').alloc (Nat.le_refl _) o))
theorem Fr.cell {G : Nat → Prop} {W W' : World} (h : Fr G W W') {b i : Nat} (hb : b < W.heap.size) (hn : ¬ G b) : W'.cell? ⟨b, i, none⟩ = W.cell? ⟨b, i, none⟩ := World.cell?_of_block (h.block b hb hn)
theorem Cs.fr {G : Nat → Prop} {W W' : World} {g : Nat} {t : TypeId} {cs : Array Value} (h : Cs W g t cs) (hf : Fr G W W') (hn : ¬ G g) : Cs W' g t cs := (hf.block g h.lt hn).trans h
theorem own_fr {G : Nat → Prop} {W W' : World} {base : Nat} {e : TypeId} {size n : Nat} {v : Value} {xs : List Value} (h : W.ownsRow base e size v n xs) (hf : Fr G W W') (hn : ∀ b, v.ownBlock = some b → ¬ G b) : W'.ownsRow base e size v n xs := by
  refine ⟨h.1, ?_⟩
  rcases h.2 with h2 | ⟨g, cap, cur, rfl, hb, hgg, rest⟩
  · exact .inl h2
  · exact .inr ⟨g, cap, cur, rfl, hb, (hf.block g (Array.getElem?_eq_some_iff.1 hgg).1 (hn g (by simp [Value.ownBlock]))).trans hgg, rest⟩
theorem own_lt {W : World} {base : Nat} {e : TypeId} {size n : Nat} {v : Value} {xs : List Value} (h : W.ownsRow base e size v n xs) (b : Nat) (hv : v.ownBlock = some b) : b < W.heap.size := by
  rcases h.2 with ⟨rfl, _⟩ | ⟨g, cap, cur, rfl, _, hgg, _⟩
  · simp [Value.ownBlock] at hv
  · obtain rfl : g = b := by simpa [Value.ownBlock] using hv
    exact (Array.getElem?_eq_some_iff.1 hgg).1
def Turn (F F' : Nat → Prop) (W W' : World) : Prop := Fr F W W' ∧ ∀ j, F' j → F j ∨ W.heap.size ≤ j
theorem Turn.refl (F : Nat → Prop) (W : World) : Turn F F W W := ⟨Fr.refl _ _, fun j h => .inl h⟩
theorem Turn.trans {F F' F'' : Nat → Prop} {A B C : World} (h : Turn F F' A B) (k : Turn F' F'' B C) : Turn F F'' A C :=
  ⟨⟨k.1.os.trans h.1.os, k.1.tape.trans h.1.tape, k.1.output.trans h.1.output, Nat.le_trans h.1.size k.1.size,
    fun j hj hn => (k.1.block j (Nat.lt_of_lt_of_le hj h.1.size) (fun hc => (h.2 j hc).elim hn (fun hl => by omega))).trans (h.1.block j hj hn)⟩,
    fun j hj => (k.2 j hj).elim (fun h' => h.2 j h') (fun hl => .inr (Nat.le_trans h.1.size hl))⟩
theorem Turn.of_below {F : Nat → Prop} {W W' : World} (h : Below W.heap.size W W') : Turn F F W W' := ⟨Fr.of_below h, fun j h => .inl h⟩
theorem Turn.out {F F' : Nat → Prop} {W W' : World} (h : Turn F F' W W') {b : Nat} (hb : b < W.heap.size) (hn : ¬ F b) : ¬ F' b := fun hc => (h.2 b hc).elim hn (fun hl => by omega)
structure DS where
  dr : List (List Nat × List Nat × Bool)
  log : List (Nat × Nat × Nat)
  fuse : Int
  down : Bool
  wr : Int
def DS.drv (S : DS) (d : Nat) : List Nat × List Nat × Bool := S.dr[d]?.getD ([], [], false)
def DS.size (S : DS) (d : Int) : Nat := if d < 0 ∨ (S.dr.length : Int) ≤ d then 0 else (S.drv d.toNat).1.length
def DS.cLoc (S : DS) (d : Int) : Int := if d < 0 ∨ (S.dr.length : Int) ≤ d then 1 else 0
def DS.cPla (S : DS) (d at_ : Int) : Int := if at_ < 0 ∨ (S.size d : Int) ≤ at_ then 1 else 0
def DS.cPow (S : DS) : Int := if S.down then 5 else 0
def DS.cMis (S : DS) (d : Int) : Int := if (S.drv d.toNat).2.2 then 6 else 0
def firstE : List Int → Int
  | [] => 0
  | x :: l => if x = 0 then firstE l else x
def DS.chk (S : DS) (d at_ : Int) : Int := firstE [S.cPow, S.cLoc d, S.cPla d at_, S.cMis d]
def DS.chkF (S : DS) (d : Int) : Int := firstE [S.cPow, S.cLoc d, S.cMis d]
def DS.rd (S : DS) (d at_ : Int) : Nat := (S.drv d.toNat).1[at_.toNat]?.getD 0
structure Dl where
  nb : Nat
  db : Nat
  x : List Nat × List Nat × Bool
def Dl.cells (z : Dl) : List Value := [.slice (some ⟨z.nb, 0, none⟩) z.x.1.length z.x.1.length, .slice (some ⟨z.db, 0, none⟩) z.x.2.1.length z.x.2.1.length, .bool z.x.2.2]
def dcells (zs : List Dl) : List Value := zs.flatMap Dl.cells
def rcells (l : List (Nat × Nat × Nat)) : List Value := l.flatMap fun r => [.int .i64 (r.1 : Int), .int .i64 (r.2.1 : Int), .int .u64 (r.2.2 : Int)]
structure DS.Ok (S : DS) : Prop where
  nd : S.dr.length ≤ 8
  drv : ∀ x ∈ S.dr, W64 x.1 ∧ W64 x.2.1 ∧ x.2.1.length = x.1.length ∧ x.1.length ≤ 65536
  log : ∀ r ∈ S.log, r.1 < S.dr.length ∧ r.2.1 < (S.drv r.1).1.length ∧ r.2.2 < 18446744073709551616
  fuse : 0 ≤ S.fuse ∧ S.fuse ≤ 9223372036854775807
  wr : 0 ≤ S.wr
structure DLay (W : World) (g : Nat) (S : DS) (dv lv : Value) (mb : Nat) (zs : List Dl) : Prop where
  arr : Cs W g 113 #[dv, .map (some mb), lv, .int .i64 S.fuse, .bool S.down, .int .i64 S.wr]
  drv : W.ownsRow 0 116 3 dv S.dr.length (dcells zs)
  map : W.heap[mb]? = some (.map #[] 0)
  log : W.ownsRow 0 127 3 lv S.log.length (rcells S.log)
  dr : S.dr = zs.map Dl.x
  now : ∀ z ∈ zs, Cs W z.nb 26 (uv z.x.1).toArray
  dur : ∀ z ∈ zs, Cs W z.db 26 (uv z.x.2.1).toArray
  apart : (zs.flatMap fun z => [z.nb, z.db]).Nodup
structure DIn (F : Nat → Prop) (g : Nat) (dv lv : Value) (mb : Nat) (zs : List Dl) : Prop where
  arr : F g
  map : F mb
  drv : ∀ b, dv.ownBlock = some b → F b
  log : ∀ b, lv.ownBlock = some b → F b
  now : ∀ z ∈ zs, F z.nb
  dur : ∀ z ∈ zs, F z.db
def DskAt (W : World) (F : Nat → Prop) (g : Nat) (S : DS) : Prop := S.Ok ∧ ∃ dv lv mb zs, DLay W g S dv lv mb zs ∧ DIn F g dv lv mb zs
theorem map_lt {W : World} {mb : Nat} {o : Obj} (h : W.heap[mb]? = some o) : mb < W.heap.size := (Array.getElem?_eq_some_iff.1 h).1
theorem DskAt.fr {W W' : World} {F G : Nat → Prop} {g : Nat} {S : DS} (h : DskAt W F g S) (hf : Fr G W W') (hn : ∀ j, F j → ¬ G j) : DskAt W' F g S := by
  obtain ⟨ho, dv, lv, mb, zs, hl, hi⟩ := h
  exact ⟨ho, dv, lv, mb, zs, ⟨hl.arr.fr hf (hn _ hi.arr), own_fr hl.drv hf (fun b hb => hn _ (hi.drv b hb)), (hf.block mb (map_lt hl.map) (hn _ hi.map)).trans hl.map, own_fr hl.log hf (fun b hb => hn _ (hi.log b hb)),
    hl.dr, fun z hz => (hl.now z hz).fr hf (hn _ (hi.now z hz)), fun z hz => (hl.dur z hz).fr hf (hn _ (hi.dur z hz)), hl.apart⟩, hi⟩
theorem DskAt.keep {W W' : World} {F : Nat → Prop} {g : Nat} {S : DS} (h : DskAt W F g S) (hb : Below W.heap.size W W') : DskAt W' F g S :=
  h.fr (G := fun _ => False) (Fr.of_below hb) (fun _ _ h => h)
theorem DskAt.drew {W : World} {F : Nat → Prop} {g : Nat} {S : DS} (h : DskAt W F g S) : DskAt W.drew F g S := h.keep (Below.refl _ W).drew
theorem DskAt.lt {W : World} {F : Nat → Prop} {g : Nat} {S : DS} (h : DskAt W F g S) : g < W.heap.size ∧ F g := by
  obtain ⟨ho, dv, lv, mb, zs, hl, hi⟩ := h
  exact ⟨hl.arr.lt, hi.arr⟩
theorem dcells_at (zs : List Dl) (i : Nat) (z : Dl) (h : zs[i]? = some z) : (dcells zs)[i * 3]? = some (.slice (some ⟨z.nb, 0, none⟩) z.x.1.length z.x.1.length) ∧ (dcells zs)[i * 3 + 1]? = some (.slice (some ⟨z.db, 0, none⟩) z.x.2.1.length z.x.2.1.length) ∧ (dcells zs)[i * 3 + 2]? = some (.bool z.x.2.2) := by
  induction zs generalizing i with
  | nil => simp at h
  | cons y r ih =>
    rcases i with _ | i
    · simp at h; subst h; simp [dcells, Dl.cells]
    · have := ih i (by simpa using h)
      have e : ∀ k, (dcells (y :: r))[(i + 1) * 3 + k]? = (dcells r)[i * 3 + k]? := by
        intro k
        rw [show (i + 1) * 3 + k = i * 3 + k + 1 + 1 + 1 by omega]
        simp [dcells, Dl.cells]
      have e0 := e 0
      simp only [Nat.add_zero] at e0
      rw [e0, e 1, e 2]
      exact this
theorem rcells_at (l : List (Nat × Nat × Nat)) (i : Nat) (r : Nat × Nat × Nat) (h : l[i]? = some r) : (rcells l)[i * 3]? = some (.int .i64 (r.1 : Int)) ∧ (rcells l)[i * 3 + 1]? = some (.int .i64 (r.2.1 : Int)) ∧ (rcells l)[i * 3 + 2]? = some (.int .u64 (r.2.2 : Int)) := by
  induction l generalizing i with
  | nil => simp at h
  | cons y q ih =>
    rcases i with _ | i
    · simp at h; subst h; simp [rcells]
    · have := ih i (by simpa using h)
      have e : ∀ k, (rcells (y :: q))[(i + 1) * 3 + k]? = (rcells q)[i * 3 + k]? := by
        intro k
        rw [show (i + 1) * 3 + k = i * 3 + k + 1 + 1 + 1 by omega]
        simp [rcells]
      have e0 := e 0
      simp only [Nat.add_zero] at e0
      rw [e0, e 1, e 2]
      exact this
theorem DLay.cells {W : World} {g : Nat} {S : DS} {dv lv : Value} {mb : Nat} {zs : List Dl} (h : DLay W g S dv lv mb zs) :
    W.cell? ⟨g, 0, none⟩ = some dv ∧ W.cell? ⟨g, 1, none⟩ = some (.map (some mb)) ∧ W.cell? ⟨g, 2, none⟩ = some lv ∧ W.cell? ⟨g, 3, none⟩ = some (.int .i64 S.fuse) ∧ W.cell? ⟨g, 4, none⟩ = some (.bool S.down) ∧ W.cell? ⟨g, 5, none⟩ = some (.int .i64 S.wr) :=
  ⟨h.arr.cell 0, h.arr.cell 1, h.arr.cell 2, h.arr.cell 3, h.arr.cell 4, h.arr.cell 5⟩
theorem DLay.one {W : World} {g : Nat} {S : DS} {dv lv : Value} {mb : Nat} {zs : List Dl} (h : DLay W g S dv lv mb zs) (d : Nat) (hd : d < S.dr.length) :
    ∃ (b cap : Nat) (z : Dl), dv = .slice (some ⟨b, 0, none⟩) S.dr.length cap ∧ S.dr.length ≤ cap ∧ zs[d]? = some z ∧ z ∈ zs ∧ z.x = S.drv d ∧ W.cell? ⟨b, d * 3, none⟩ = some (.slice (some ⟨z.nb, 0, none⟩) z.x.1.length z.x.1.length) ∧
      W.cell? ⟨b, d * 3 + 1, none⟩ = some (.slice (some ⟨z.db, 0, none⟩) z.x.2.1.length z.x.2.1.length) ∧ W.cell? ⟨b, d * 3 + 2, none⟩ = some (.bool z.x.2.2) := by
  obtain ⟨b, cap, hv, hb, hlt⟩ := h.drv.form (by omega)
  have hzl : S.dr.length = zs.length := by rw [h.dr, List.length_map]
  have hz : zs[d]? = some zs[d] := List.getElem?_eq_getElem (by omega)
  have hx : zs[d].x = S.drv d := by
    unfold DS.drv
    rw [h.dr, List.getElem?_map, hz]
    rfl
  obtain ⟨c0, c1, c2⟩ := dcells_at zs d _ hz
  have hdr := h.drv
  rw [hv] at hdr
  have hcap : S.dr.length ≤ cap := own_cap hdr
  refine ⟨b, cap, zs[d], hv, hcap, hz, List.getElem_mem _, hx, ?_, ?_, ?_⟩
  · rw [hdr.cellAt (d * 3) (by omega)]; exact c0
  · rw [hdr.cellAt (d * 3 + 1) (by omega)]; exact c1
  · rw [hdr.cellAt (d * 3 + 2) (by omega)]; exact c2
end Go.Proofs.YtogchafnnkajfaaGreat
namespace Go.Proofs.YtogchafnnkajfaaGreat
set_option linter.unusedVariables false
open Go.RowKit
theorem fault_any (b : Bool) (e0 : Int) (W : World) : Calls Tryz.prog 188 #[.bool b, .int .i64 e0] W fun e w' => e = .returned (.int .i64 (if b = true then e0 else 0)) ∧ w' = W := by
  cases b
  · go_enter Tryz.func188, Tryz.ntmps188
    go_wp2
    go_ret
    exact ⟨rfl, rfl⟩
  · go_enter Tryz.func188, Tryz.ntmps188
    go_wp2
    go_ret
    exact ⟨rfl, rfl⟩
theorem powered_any (W : World) (F : Nat → Prop) (g : Nat) (S : DS) (d a : Int) (h : DskAt W F g S) :
    Calls Tryz.prog 183 #[.pointer (some ⟨g, 0, none⟩), .agg #[.int .i64 d, .int .i64 a]] W fun e w' => e = .returned (.int .i64 S.cPow) ∧ Below W.heap.size W w' := by
  obtain ⟨ho, dv, lv, mb, zs, hl, hi⟩ := h
  obtain ⟨x0, x1, x2, x3, x4, x5⟩ := hl.cells
  have hlt := hl.arr.lt
  clear x0 x1 x2 x3 x5
  have HD : Hid (S.cPow = if S.down = true then 5 else 0) := rfl
  generalize S.down = dn at x4 HD
  go_enter Tryz.func183, Tryz.ntmps183
  go_wp2_with fail
  refine (fault_any dn 5 _).mono ?_
  rintro e w' ⟨rfl, rfl⟩
  rw [← HD.out]
  go_wp2_with fail
  go_ret
  exact ⟨rfl, (Below.refl _ _).alloc (Nat.le_refl _) _⟩
theorem asize_any (W : World) (F : Nat → Prop) (g : Nat) (S : DS) (d : Int) (h : DskAt W F g S) :
    Calls Tryz.prog 69 #[.pointer (some ⟨g, 0, none⟩), .int .i64 d] W fun e w' => e = .returned (.int .i64 (S.size d : Int)) ∧ ∃ n, w' = W.drewN n := by
  obtain ⟨ho, dv, lv, mb, zs, hl, hi⟩ := h
  obtain ⟨x0, x1, x2, x3, x4, x5⟩ := hl.cells
  clear x1 x2 x3 x4 x5
  obtain ⟨A, c, rfl⟩ := own_form hl.drv
  have hnd := ho.nd
  have hcap := own_cap hl.drv
  by_cases h0 : d < 0
  · have HD : Hid (S.size d = 0) := by show _ = _; unfold DS.size; rw [if_pos (.inl h0)]
    generalize S.size d = sz at *
    clear hl ho hi
    go_enter Tryz.func69, Tryz.ntmps69
    go_wp2_with fail
    go_ret
    exact ⟨by rw [HD.out]; rfl, 0, rfl⟩
  · by_cases h1 : (S.dr.length : Int) ≤ d
    · have HD : Hid (S.size d = 0) := by show _ = _; unfold DS.size; rw [if_pos (.inr h1)]
      generalize S.size d = sz at *
      clear hl ho hi
      go_enter Tryz.func69, Tryz.ntmps69
      go_wp2_with fail
      go_ret
      exact ⟨by rw [HD.out]; rfl, 0, rfl⟩
    · have HD : Hid (S.size d = (S.drv d.toNat).1.length) := by show _ = _; unfold DS.size; rw [if_neg (by omega)]
      obtain ⟨i, rfl⟩ : ∃ i : Nat, d = (i : Int) := ⟨d.toNat, by omega⟩
      rw [Int.toNat_natCast] at HD
      have hi' : i < S.dr.length := by omega
      obtain ⟨b, cap, z, hv, hcl, hz, hzm, hx, c0, c1, c2⟩ := hl.one i hi'
      obtain ⟨rfl, rfl⟩ : A = some ⟨b, 0, none⟩ ∧ c = cap := by injection hv with p _ q; exact ⟨p, q⟩
      rw [← hx] at HD
      generalize S.size (i : Int) = sz at *
      generalize z.x.1.length = n at *
      clear hl ho hi hv hz hzm hx c1 c2
      go_enter Tryz.func69, Tryz.ntmps69
      go_wp2_with fail
      go_ret
      exact ⟨by rw [HD.out]; rfl, 0, rfl⟩
set_option maxHeartbeats 1000000 in
theorem located_any (W : World) (F : Nat → Prop) (g : Nat) (S : DS) (d a : Int) (h : DskAt W F g S) :
    Calls Tryz.prog 184 #[.pointer (some ⟨g, 0, none⟩), .agg #[.int .i64 d, .int .i64 a]] W fun e w' => e = .returned (.int .i64 (S.cLoc d)) ∧ Below W.heap.size W w' := by
  obtain ⟨ho, dv, lv, mb, zs, hl, hi⟩ := h
  obtain ⟨x0, x1, x2, x3, x4, x5⟩ := hl.cells
  clear x1 x2 x3 x4 x5
  obtain ⟨A, c, rfl⟩ := own_form hl.drv
  have hnd := ho.nd
  have hlt := hl.arr.lt
  have hne : g ≠ W.heap.size := by omega
  have x0 := (World.cell?_alloc_lt W (.cells #[.int .i64 d, .int .i64 a] 125) ⟨g, 0, none⟩ hlt).trans x0
  clear hl ho hi
  by_cases h0 : d < 0
  · have HD : Hid (S.cLoc d = 1) := by show _ = _; unfold DS.cLoc; rw [if_pos (.inl h0)]
    have hd : decide (d < 0) = true := by simpa using h0
    generalize S.cLoc d = sz at *
    generalize S.dr.length = n at *
    go_enter Tryz.func184, Tryz.ntmps184
    go_wp2_with fail
    go_quiet ((go_at_call 188; exact Calls.quiet_of_same (fault_any _ _ _)))
    go_wp2_with fail
    go_ret
    exact ⟨by rw [HD.out]; rfl, below_drewN ((Below.refl _ _).alloc (Nat.le_refl _) _) _⟩
  · have hd : decide (d < 0) = false := by simpa using h0
    by_cases h1 : (S.dr.length : Int) ≤ d
    · have HD : Hid (S.cLoc d = 1) := by show _ = _; unfold DS.cLoc; rw [if_pos (.inr h1)]
      have hd1 : decide ((S.dr.length : Int) ≤ d) = true := by simpa using h1
      generalize S.cLoc d = sz at *
      generalize S.dr.length = n at *
      go_enter Tryz.func184, Tryz.ntmps184
      go_wp2_with fail
      go_quiet ((go_at_call 188; exact Calls.quiet_of_same (fault_any _ _ _)))
      go_wp2_with fail
      go_ret
      exact ⟨by rw [HD.out]; rfl, below_drewN ((Below.refl _ _).alloc (Nat.le_refl _) _) _⟩
    · have HD : Hid (S.cLoc d = 0) := by show _ = _; unfold DS.cLoc; rw [if_neg (by omega)]
      have hd1 : decide ((S.dr.length : Int) ≤ d) = false := by simpa using h1
      generalize S.cLoc d = sz at *
      generalize S.dr.length = n at *
      go_enter Tryz.func184, Tryz.ntmps184
      go_wp2_with fail
      go_quiet ((go_at_call 188; exact Calls.quiet_of_same (fault_any _ _ _)))
      go_wp2_with fail
      go_ret
      exact ⟨by rw [HD.out]; rfl, below_drewN ((Below.refl _ _).alloc (Nat.le_refl _) _) _⟩
end Go.Proofs.YtogchafnnkajfaaGreat
namespace Go.Proofs.YtogchafnnkajfaaGreat
set_option linter.unusedVariables false
open Go.RowKit
theorem check_place (d a : Int) (w : World) : (Instr.checkKey true 10000 125 (.agg #[.int .i64 d, .int .i64 a])).run Tryz.prog w = .ok () w := by kernel_rfl
theorem zero_bool (w : World) : (zeroValue 4).run Tryz.prog w = .ok (.bool false) w := by kernel_rfl
theorem run_bad_lookup (w : World) (mb : Nat) (d a : Int) (h : w.heap[mb]? = some (.map #[] 0)) : (Instr.lookup 110 (.map (some mb)) (.agg #[.int .i64 d, .int .i64 a]) false).run Tryz.prog w = .ok (.bool false) w := by
  have hg : (getObj mb).run Tryz.prog w = .ok (.map #[] 0) w := MapKept.run_getObj_map h
  simp only [Instr.lookup, Sem.run_bind, run_underlying Tryz.underlying110, Result.andThen_ok, hg, Sem.run_pure, Array.isEmpty_empty, check_place, Instr.findKey, run_underlying Tryz.underlying125, Instr.findNow, zero_bool]
  simp
theorem set_same (w : World) (mb : Nat) (o : Obj) (h : w.heap[mb]? = some o) : { w with heap := w.heap.setIfInBounds mb o } = w := by
  have : w.heap.setIfInBounds mb o = w.heap := by
    apply Array.ext
    · simp
    · intro i h1 h2
      rw [Array.getElem_setIfInBounds]
      split
      · rename_i e; subst e; rw [Array.getElem?_eq_getElem h2] at h; injection h with h; exact h.symm
      · rfl
  rw [this]
theorem run_bad_delete (w : World) (mb : Nat) (d a : Int) (h : w.heap[mb]? = some (.map #[] 0)) (ty : TypeId) : (Builtin.delete_ #[110, 125] ty #[.map (some mb), .agg #[.int .i64 d, .int .i64 a]]).run Tryz.prog w = .ok (.tuple #[]) w := by
  have hg : (getObj mb).run Tryz.prog w = .ok (.map #[] 0) w := MapKept.run_getObj_map h
  have hs : (setObj mb (.map #[] 0)).run Tryz.prog w = .ok () w := by rw [MapKept.run_setObj_map _ h, set_same w mb _ h]
  simp [Builtin.delete_, Sem.run_bind, run_underlying Tryz.underlying110, Result.andThen_ok, hg, check_place, Instr.findKey, run_underlying Tryz.underlying125, Instr.findNow, hs]
end Go.Proofs.YtogchafnnkajfaaGreat
namespace Go.Proofs.YtogchafnnkajfaaGreat
set_option linter.unusedVariables false
open Go.RowKit
theorem DskAt.drewN {W : World} {F : Nat → Prop} {g : Nat} {S : DS} (h : DskAt W F g S) (n : Nat) : DskAt (W.drewN n) F g S := h.keep (below_drewN (Below.refl _ W) n)
set_option maxHeartbeats 1000000 in
theorem placed_any (W : World) (F : Nat → Prop) (g : Nat) (S : DS) (d a : Int) (h : DskAt W F g S) :
    Calls Tryz.prog 186 #[.pointer (some ⟨g, 0, none⟩), .agg #[.int .i64 d, .int .i64 a]] W fun e w' => e = .returned (.int .i64 (S.cPla d a)) ∧ Below W.heap.size W w' := by
  have HDk := Lib.hid (h.keep ((Below.refl _ _).alloc (Nat.le_refl _) (.cells #[.int .i64 d, .int .i64 a] 125)))
  have HC : Hid (S.cPla d a = if a < 0 ∨ (S.size d : Int) ≤ a then 1 else 0) := rfl
  clear h
  by_cases h0 : a < 0
  · have hd : decide (a < 0) = true := by simpa using h0
    rw [if_pos (.inl h0)] at HC
    generalize S.cPla d a = sz at *
    go_enter Tryz.func186, Tryz.ntmps186
    go_wp2_with fail
    go_quiet ((go_at_call 188; exact Calls.quiet_of_same (fault_any _ _ _)))
    go_wp2_with fail
    go_ret
    exact ⟨by rw [HC.out]; rfl, below_drewN ((Below.refl _ _).alloc (Nat.le_refl _) _) _⟩
  · have hd : decide (a < 0) = false := by simpa using h0
    by_cases h1 : (S.size d : Int) ≤ a
    · rw [if_pos (.inr h1)] at HC
      have hd1 : decide ((S.size d : Int) ≤ a) = true := by simpa using h1
      have HZ := Lib.hid (fun n => asize_any _ F g S d (HDk.out.drewN n))
      generalize S.cPla d a = sz at *
      generalize S.size d = n at *
      go_enter Tryz.func186, Tryz.ntmps186
      go_wp2_with fail
      go_quiet ((first | (go_at_call 188; exact Calls.quiet_of_same (fault_any _ _ _)) | (go_at_call 69; exact Calls.quiet_of (HZ.out _))))
      go_wp2_with fail
      go_ret
      exact ⟨by rw [HC.out]; rfl, below_drewN ((Below.refl _ _).alloc (Nat.le_refl _) _) _⟩
    · rw [if_neg (by omega)] at HC
      have hd1 : decide ((S.size d : Int) ≤ a) = false := by simpa using h1
      have HZ := Lib.hid (fun n => asize_any _ F g S d (HDk.out.drewN n))
      generalize S.cPla d a = sz at *
      generalize S.size d = n at *
      go_enter Tryz.func186, Tryz.ntmps186
      go_wp2_with fail
      go_quiet ((first | (go_at_call 188; exact Calls.quiet_of_same (fault_any _ _ _)) | (go_at_call 69; exact Calls.quiet_of (HZ.out _))))
      go_wp2_with fail
      go_ret
      exact ⟨by rw [HC.out]; rfl, below_drewN ((Below.refl _ _).alloc (Nat.le_refl _) _) _⟩
set_option maxHeartbeats 1000000 in
theorem present_any (W : World) (F : Nat → Prop) (g : Nat) (S : DS) (d a : Int) (h : DskAt W F g S) (h1 : 0 ≤ d) (h2 : d < (S.dr.length : Int)) :
    Calls Tryz.prog 185 #[.pointer (some ⟨g, 0, none⟩), .agg #[.int .i64 d, .int .i64 a]] W fun e w' => e = .returned (.int .i64 (S.cMis d)) ∧ Below W.heap.size W w' := by
  obtain ⟨ho, dv, lv, mb, zs, hl, hi⟩ := h.keep ((Below.refl _ _).alloc (Nat.le_refl _) (.cells #[.int .i64 d, .int .i64 a] 125))
  obtain ⟨x0, x1, x2, x3, x4, x5⟩ := hl.cells
  obtain ⟨i, rfl⟩ : ∃ i : Nat, d = (i : Int) := ⟨d.toNat, by omega⟩
  have hi' : i < S.dr.length := by omega
  have HD : Hid (S.cMis (i : Int) = if (S.drv i).2.2 = true then 6 else 0) := rfl
  obtain ⟨b, cap, z, rfl, hcl, hz, hzm, hx, c0, c1, c2⟩ := hl.one i hi'
  have hnd := ho.nd
  have hg := h.lt.1
  rw [← hx] at HD
  generalize S.cMis (i : Int) = sz at *
  generalize z.x.2.2 = ms at *
  generalize S.dr.length = n at *
  have t1 : (0 : Int) ≤ (i : Int) := by omega
  have t2 : (i : Int) < (n : Int) := by omega
  clear hl ho hi hz hzm hx c0 c1 x1 x2 x3 x4 x5 h
  cases ms
  · go_enter Tryz.func185, Tryz.ntmps185
    go_wp2_with fail
    go_quiet ((go_at_call 188; exact Calls.quiet_of_same (fault_any _ _ _)))
    go_wp2_with fail
    go_ret
    exact ⟨by rw [HD.out]; rfl, below_drewN ((Below.refl _ _).alloc (Nat.le_refl _) _) _⟩
  · go_enter Tryz.func185, Tryz.ntmps185
    go_wp2_with fail
    go_quiet ((go_at_call 188; exact Calls.quiet_of_same (fault_any _ _ _)))
    go_wp2_with fail
    go_ret
    exact ⟨by rw [HD.out]; rfl, below_drewN ((Below.refl _ _).alloc (Nat.le_refl _) _) _⟩
set_option maxHeartbeats 1000000 in
theorem whole_any (W : World) (F : Nat → Prop) (g : Nat) (S : DS) (d a : Int) (h : DskAt W F g S) :
    Calls Tryz.prog 187 #[.pointer (some ⟨g, 0, none⟩), .agg #[.int .i64 d, .int .i64 a]] W fun e w' => e = .returned (.int .i64 0) ∧ Below W.heap.size W w' := by
  obtain ⟨ho, dv, lv, mb, zs, hl, hi⟩ := h.keep ((Below.refl _ _).alloc (Nat.le_refl _) (.cells #[.int .i64 d, .int .i64 a] 125))
  obtain ⟨x0, x1, x2, x3, x4, x5⟩ := hl.cells
  have hg := h.lt.1
  have hlk := fun n => run_bad_lookup ((W.alloc (.cells #[.int .i64 d, .int .i64 a] 125)).drewN n) mb d a hl.map
  clear hl ho hi x0 x2 x3 x4 x5 h
  go_enter Tryz.func187, Tryz.ntmps187
  go_wp2_with fail
  go_quiet ((go_at_call 188; exact Calls.quiet_of_same (fault_any _ _ _)))
  go_wp2_with fail
  go_ret
  exact ⟨rfl, below_drewN ((Below.refl _ _).alloc (Nat.le_refl _) _) _⟩
end Go.Proofs.YtogchafnnkajfaaGreat
namespace Go.Proofs.YtogchafnnkajfaaGreat
set_option linter.unusedVariables false
open Go.RowKit
def fv (g : Nat) (fs : List (Nat × Int)) : List Value := fs.map fun p => .func (.func p.1) #[.pointer (some ⟨g, 0, none⟩)] #[]
theorem fv_at (g : Nat) (fs : List (Nat × Int)) (k : Nat) (p : Nat × Int) (h : fs[k]? = some p) : (fv g fs)[k]? = some (.func (.func p.1) #[.pointer (some ⟨g, 0, none⟩)] #[]) := by simp [fv, h]
def Zeros (fs : List (Nat × Int)) (k : Nat) : Prop := ∀ j, j < k → (fs[j]?.getD (0, 0)).2 = 0
theorem Zeros.snoc {fs : List (Nat × Int)} {k : Nat} (h : Zeros fs k) {p : Nat × Int} (hp : fs[k]? = some p) (h0 : p.2 = 0) : Zeros fs (k + 1) := by
  intro j hj
  by_cases e : j = k
  · subst e; rw [hp]; exact h0
  · exact h j (by omega)
theorem firstE_zeros (fs : List (Nat × Int)) : Zeros fs fs.length → firstE (fs.map (·.2)) = 0 := by
  induction fs with
  | nil => intro _; rfl
  | cons p r ih =>
    intro h
    have h0 : p.2 = 0 := by simpa using h 0 (by simp)
    simp only [List.map_cons, firstE, h0, if_true]
    exact ih (fun j hj => by simpa using h (j + 1) (by simp; omega))
theorem firstE_at (fs : List (Nat × Int)) (k : Nat) (p : Nat × Int) (hz : Zeros fs k) (hp : fs[k]? = some p) (h0 : p.2 ≠ 0) : firstE (fs.map (·.2)) = p.2 := by
  induction fs generalizing k with
  | nil => simp at hp
  | cons q r ih =>
    rcases k with _ | k
    · simp at hp; subst hp
      simp only [List.map_cons, firstE, if_neg h0]
    · have hq : q.2 = 0 := by simpa using hz 0 (by omega)
      simp only [List.map_cons, firstE, hq, if_true]
      exact ih k (fun j hj => by simpa using hz (j + 1) (by omega)) (by simpa using hp)
def Answers (W : World) (g : Nat) (d a : Int) (fs : List (Nat × Int)) : Prop :=
  ∀ k p, fs[k]? = some p → (∀ V, (callFunc p.1 #[.pointer (some ⟨g, 0, none⟩), .agg #[.int .i64 d, .int .i64 a]]).run Tryz.prog V = .ok (.enter p.1 #[.pointer (some ⟨g, 0, none⟩), .agg #[.int .i64 d, .int .i64 a]]) V) ∧ (Zeros fs k → ∀ V, Below W.heap.size W V → Calls Tryz.prog p.1 #[.pointer (some ⟨g, 0, none⟩), .agg #[.int .i64 d, .int .i64 a]] V fun e w' => e = .returned (.int .i64 p.2) ∧ Below V.heap.size V w')
set_option maxRecDepth 100000 in
set_option maxHeartbeats 1000000 in
theorem check_any (W : World) (g b N : Nat) (d a : Int) (fs : List (Nat × Int)) (hN : fs.length = N) (hN5 : N ≤ 5) (hb : Cs W b 237 (fv g fs).toArray) (hA : Answers W g d a fs) :
    Calls Tryz.prog 182 #[.agg #[.int .i64 d, .int .i64 a], .slice (some ⟨b, 0, none⟩) N N] W fun e w' => e = .returned (.int .i64 (firstE (fs.map (·.2)))) ∧ Below W.heap.size W w' := by
  have HN := Lib.hid hN
  have HB := Lib.hid (hb.alloc (.cells #[.int .i64 d, .int .i64 a] 125))
  have HP := Lib.hid (Cs.new W 125 #[.int .i64 d, .int .i64 a])
  have HA := Lib.hid hA
  clear hN hb hA
  go_enter Tryz.func182, Tryz.ntmps182
  go_wp2_with fail
  go_loopw [10] (fun s wr => ∃ k : Nat, k ≤ N ∧ s = .int .i64 k ∧ Zeros fs k ∧ Below (W.alloc (.cells #[.int .i64 d, .int .i64 a] 125)).heap.size (W.alloc (.cells #[.int .i64 d, .int .i64 a] 125)) wr) (fun s _ => N - (intOf s).toNat)
  case atStart => exact ⟨0, Nat.zero_le _, rfl, fun j hj => absurd hj (by omega), Below.refl _ _⟩
  case round =>
    obtain ⟨k, hk, rfl, hz, hbw⟩ := hrel
    have hB0 : Below W.heap.size W wr := ((Below.refl _ W).alloc (Nat.le_refl _) _).trans (hbw.mono (by simp))
    by_cases hlt : k < N
    · obtain ⟨p, hp⟩ : ∃ p, fs[k]? = some p := ⟨_, List.getElem?_eq_getElem (by rw [HN.out]; exact hlt)⟩
      have hc := (HB.out.below hbw HB.out.lt).cell k
      rw [List.getElem?_toArray, fv_at g fs k p hp] at hc
      obtain ⟨p0, p1⟩ : wr.cell? ⟨W.heap.size, 0, none⟩ = some (.int .i64 d) ∧ wr.cell? ⟨W.heap.size, 1, none⟩ = some (.int .i64 a) := ⟨(HP.out.below hbw HP.out.lt).cell 0, (HP.out.below hbw HP.out.lt).cell 1⟩
      have HPp := Lib.hid hp
      have HZ := Lib.hid hz
      have t1 : (k : Int) < (N : Int) := by omega
      clear hp hz
      obtain ⟨fn, e0⟩ := p
      have HAk := Lib.hid ((HA.out k (fn, e0) HPp.out).2 HZ.out wr hB0)
      have hcf := (HA.out k (fn, e0) HPp.out).1 wr
      try dsimp only at hc hcf
      go_wp2_with fail
      refine HAk.out.mono ?_
      rintro e w1 ⟨rfl, hb1⟩
      clear hcf hc p0 p1
      try dsimp only at hb1
      have hB1 := hB0.trans (hb1.mono hB0.size)
      have hbw1 := hbw.trans (hb1.mono hbw.size)
      by_cases h0 : e0 = 0
      · have hz0 : (e0 != 0) = false := by simpa using h0
        go_wp2_with fail
        go_roundw
        case rel => exact ⟨k + 1, by omega, by go_num, HZ.out.snoc HPp.out h0, hbw1⟩
        case measure => simp [intOf]; omega
      · have hz0 : (e0 != 0) = true := by simpa using h0
        have HF := Lib.hid (firstE_at fs k (fn, e0) HZ.out HPp.out h0)
        go_wp2_with fail
        go_ret
        exact ⟨by rw [HF.out]; rfl, hB1⟩
    · obtain rfl : k = N := by omega
      have HF := Lib.hid (firstE_zeros fs (by rw [HN.out]; exact hz))
      clear hz
      go_wp2_with fail
      go_ret
      exact ⟨by rw [HF.out]; rfl, hB0⟩
end Go.Proofs.YtogchafnnkajfaaGreat
namespace Go.Proofs.YtogchafnnkajfaaGreat
set_option linter.unusedVariables false
open Go.RowKit
theorem cLoc_zero {S : DS} {d : Int} (h : S.cLoc d = 0) : 0 ≤ d ∧ d < (S.dr.length : Int) := by
  unfold DS.cLoc at h
  split at h
  · cases h
  · omega
theorem cPla_zero {S : DS} {d a : Int} (h : S.cPla d a = 0) : 0 ≤ a ∧ a < (S.size d : Int) := by
  unfold DS.cPla at h
  split at h
  · cases h
  · omega
def ckPow (S : DS) : Nat × Int := (183, S.cPow)
def ckLoc (S : DS) (d : Int) : Nat × Int := (184, S.cLoc d)
def ckPla (S : DS) (d a : Int) : Nat × Int := (186, S.cPla d a)
def ckMis (S : DS) (d : Int) : Nat × Int := (185, S.cMis d)
def ckWho : Nat × Int := (187, 0)
theorem answers_of {W : World} {F : Nat → Prop} {g : Nat} {S : DS} {d a : Int} (h : DskAt W F g S) (fs : List (Nat × Int))
    (hfs : ∀ k p, fs[k]? = some p → p = ckPow S ∨ p = ckLoc S d ∨ p = ckPla S d a ∨ (p = ckMis S d ∧ (Zeros fs k → S.cLoc d = 0)) ∨ p = ckWho) : Answers W g d a fs := by
  intro k p hp
  rcases hfs k p hp with rfl | rfl | rfl | ⟨rfl, hz⟩ | rfl
  · exact ⟨fun V => by kernel_rfl, fun _ V hb => powered_any V F g S d a (h.keep hb)⟩
  · exact ⟨fun V => by kernel_rfl, fun _ V hb => located_any V F g S d a (h.keep hb)⟩
  · exact ⟨fun V => by kernel_rfl, fun _ V hb => placed_any V F g S d a (h.keep hb)⟩
  · refine ⟨fun V => by kernel_rfl, fun hzz V hb => ?_⟩
    have := cLoc_zero (hz hzz)
    exact present_any V F g S d a (h.keep hb) this.1 this.2
  · exact ⟨fun V => by kernel_rfl, fun _ V hb => whole_any V F g S d a (h.keep hb)⟩
theorem answers5 {W : World} {F : Nat → Prop} {g : Nat} {S : DS} {d a : Int} (h : DskAt W F g S) : Answers W g d a [ckPow S, ckLoc S d, ckPla S d a, ckMis S d, ckWho] := by
  refine answers_of h _ ?_
  intro k p hp
  rcases k with _ | _ | _ | _ | _ | k
  · simp at hp; exact .inl hp.symm
  · simp at hp; exact .inr (.inl hp.symm)
  · simp at hp; exact .inr (.inr (.inl hp.symm))
  · simp at hp; exact .inr (.inr (.inr (.inl ⟨hp.symm, fun hz => hz 1 (by omega)⟩)))
  · simp at hp; exact .inr (.inr (.inr (.inr hp.symm)))
  · simp at hp
theorem answers4 {W : World} {F : Nat → Prop} {g : Nat} {S : DS} {d a : Int} (h : DskAt W F g S) : Answers W g d a [ckPow S, ckLoc S d, ckPla S d a, ckMis S d] := by
  refine answers_of h _ ?_
  intro k p hp
  rcases k with _ | _ | _ | _ | k
  · simp at hp; exact .inl hp.symm
  · simp at hp; exact .inr (.inl hp.symm)
  · simp at hp; exact .inr (.inr (.inl hp.symm))
  · simp at hp; exact .inr (.inr (.inr (.inl ⟨hp.symm, fun hz => hz 1 (by omega)⟩)))
  · simp at hp
theorem answers3 {W : World} {F : Nat → Prop} {g : Nat} {S : DS} {d a : Int} (h : DskAt W F g S) : Answers W g d a [ckPow S, ckLoc S d, ckMis S d] := by
  refine answers_of h _ ?_
  intro k p hp
  rcases k with _ | _ | _ | k
  · simp at hp; exact .inl hp.symm
  · simp at hp; exact .inr (.inl hp.symm)
  · simp at hp; exact .inr (.inr (.inr (.inl ⟨hp.symm, fun hz => hz 1 (by omega)⟩)))
  · simp at hp
theorem firstE_0 (x y z u : Int) : firstE [x, y, z, u, 0] = firstE [x, y, z, u] := by
  simp only [firstE]
  repeat' split
  all_goals simp_all
theorem firstE_all4 {x y z u : Int} (h : firstE [x, y, z, u] = 0) : x = 0 ∧ y = 0 ∧ z = 0 ∧ u = 0 := by
  simp only [firstE] at h
  repeat' split at h
  all_goals simp_all
theorem firstE_all3 {x y z : Int} (h : firstE [x, y, z] = 0) : x = 0 ∧ y = 0 ∧ z = 0 := by
  simp only [firstE] at h
  repeat' split at h
  all_goals simp_all
theorem chk_zero {S : DS} {d a : Int} (h : S.chk d a = 0) : ∃ i j : Nat, d = (i : Int) ∧ a = (j : Int) ∧ i < S.dr.length ∧ j < (S.drv i).1.length ∧ S.down = false ∧ (S.drv i).2.2 = false := by
  obtain ⟨h1, h2, h3, h4⟩ := firstE_all4 h
  have e2 := cLoc_zero h2
  have e3 := cPla_zero h3
  refine ⟨d.toNat, a.toNat, by omega, by omega, by omega, ?_, ?_, ?_⟩
  · unfold DS.size at e3; rw [if_neg (by omega)] at e3; omega
  · unfold DS.cPow at h1; cases hd : S.down
    · rfl
    · rw [hd] at h1; simp at h1
  · unfold DS.cMis at h4; cases hd : (S.drv d.toNat).2.2
    · rfl
    · rw [hd] at h4; simp at h4
def DS.read (S : DS) (d a : Int) : Nat := if S.chk d a = 0 then S.rd d a else 0
set_option maxRecDepth 100000 in
set_option maxHeartbeats 1000000 in
theorem aread_any (W : World) (F : Nat → Prop) (g : Nat) (S : DS) (d a : Int) (h : DskAt W F g S) :
    Calls Tryz.prog 180 #[.pointer (some ⟨g, 0, none⟩), .int .i64 d, .int .i64 a] W fun e w' => e = .returned (.tuple #[.int .u64 (S.read d a : Int), .int .i64 (S.chk d a)]) ∧ Below W.heap.size W w' := by
  have hb0 := (Below.refl _ W).alloc (Nat.le_refl _) (.cells (fv g [ckPow S, ckLoc S d, ckPla S d a, ckMis S d, ckWho]).toArray 237)
  have HDk := Lib.hid (h.keep hb0)
  have HB := Lib.hid (Cs.new W 237 (fv g [ckPow S, ckLoc S d, ckPla S d a, ckMis S d, ckWho]).toArray)
  have HE : Hid (firstE ([ckPow S, ckLoc S d, ckPla S d a, ckMis S d, ckWho].map (·.2)) = S.chk d a) := firstE_0 _ _ _ _
  go_enter Tryz.func180, Tryz.ntmps180
  go_wp2_with fail
  refine (check_any _ g W.heap.size 5 d a [ckPow S, ckLoc S d, ckPla S d a, ckMis S d, ckWho] rfl (by omega) HB.out (answers5 HDk.out)).mono ?_
  rintro e w1 ⟨rfl, hb1⟩
  rw [HE.out]
  have hB1 := hb0.trans (hb1.mono hb0.size)
  by_cases h0 : S.chk d a = 0
  · obtain ⟨i, j, rfl, rfl, hi, hj, hdn, hms⟩ := chk_zero h0
    have HR : Hid (S.read (i : Int) (j : Int) = (S.drv i).1[j]?.getD 0) := by show _ = _; unfold DS.read; rw [if_pos h0]; rfl
    rw [h0]
    obtain ⟨ho, dv, lv, mb, zs, hl, hin⟩ := HDk.out.keep hb1
    obtain ⟨x0, x1, x2, x3, x4, x5⟩ := hl.cells
    obtain ⟨b, cap, z, rfl, hcl, hz, hzm, hx, c0, c1, c2⟩ := hl.one i hi
    have hnd := ho.nd
    have hcn := hl.now z hzm
    rw [← hx] at hj HR
    have hcc := hcn.cell j
    rw [List.getElem?_toArray, uv_at _ _ hj] at hcc
    have hsz : z.x.1.length ≤ 65536 := (ho.drv z.x (by rw [hl.dr]; exact List.mem_map_of_mem hzm)).2.2.2
    have H0 := Lib.hid h0
    generalize z.x.1[j]?.getD 0 = v at *
    generalize z.x.1.length = n at *
    clear hl ho hin hz hzm hx c1 c2 x1 x2 x3 x4 x5 h hdn hms hcn h0
    generalize S.dr.length = nd at *
    have t1 : (0 : Int) ≤ (i : Int) := by omega
    have t2 : (i : Int) < (nd : Int) := by omega
    have t3 : (0 : Int) ≤ (j : Int) := by omega
    have t4 : (j : Int) < (n : Int) := by omega
    go_wp2_with fail
    go_ret2
    exact ⟨by rw [HR.out, H0.out]; rfl, hB1⟩
  · have hz0 : (S.chk d a != 0) = true := by simpa using h0
    have HR : Hid (S.read d a = 0) := by show _ = _; unfold DS.read; rw [if_neg h0]
    clear h0
    go_wp2_with fail
    go_ret2
    exact ⟨by rw [HR.out]; rfl, hB1⟩
end Go.Proofs.YtogchafnnkajfaaGreat
namespace Go.Proofs.YtogchafnnkajfaaGreat
set_option linter.unusedVariables false
open Go.RowKit
theorem cs_own_ne {W : World} {b base n : Nat} {t e : TypeId} {cs : Array Value} {size : Nat} {v : Value} {xs : List Value} (h : Cs W b t cs) (hr : W.ownsRow base e size v n xs) (hne : t ≠ e) : ∀ b', v.ownBlock = some b' → b' ≠ b := by
  intro b' hv hbb
  subst hbb
  rcases hr.2 with ⟨rfl, _⟩ | ⟨g, cap, cur, rfl, _, hg, _⟩
  · simp [Value.ownBlock] at hv
  · obtain rfl : g = b' := by simpa [Value.ownBlock] using hv
    unfold Cs at h
    rw [h] at hg
    simp at hg
    exact hne hg.2
theorem own_own_ne {W : World} {base base' n n' : Nat} {e e' : TypeId} {size size' : Nat} {v v' : Value} {xs xs' : List Value} (h : W.ownsRow base e size v n xs) (hr : W.ownsRow base' e' size' v' n' xs') (hne : e ≠ e') : ∀ b b', v.ownBlock = some b → v'.ownBlock = some b' → b ≠ b' := by
  intro b b' hv hv' hbb
  subst hbb
  rcases h.2 with ⟨rfl, _⟩ | ⟨g, cap, cur, rfl, _, hg, _⟩
  · simp [Value.ownBlock] at hv
  · obtain rfl : g = b := by simpa [Value.ownBlock] using hv
    exact cs_own_ne (W := W) (b := g) (cs := cur) (t := e) hg hr hne g hv' rfl
theorem cs_ne {W : World} {b b' : Nat} {t e : TypeId} {cs cs' : Array Value} (h : Cs W b t cs) (h' : Cs W b' e cs') (hne : t ≠ e) : b' ≠ b := by
  rintro rfl
  unfold Cs at h h'
  rw [h] at h'
  simp at h'
  exact hne h'.2
theorem cs_map_ne {W : World} {b mb : Nat} {t : TypeId} {cs : Array Value} (h : Cs W b t cs) (h' : W.heap[mb]? = some (.map #[] 0)) : mb ≠ b := by
  rintro rfl
  unfold Cs at h
  rw [h] at h'
  cases h'
theorem own_map_ne {W : World} {base n mb : Nat} {e : TypeId} {size : Nat} {v : Value} {xs : List Value} (h : W.ownsRow base e size v n xs) (h' : W.heap[mb]? = some (.map #[] 0)) : ∀ b, v.ownBlock = some b → mb ≠ b := by
  intro b hv hbb
  subst hbb
  rcases h.2 with ⟨rfl, _⟩ | ⟨g, cap, cur, rfl, _, hg, _⟩
  · simp [Value.ownBlock] at hv
  · obtain rfl : g = mb := by simpa [Value.ownBlock] using hv
    rw [hg] at h'
    cases h'
structure DRest (W : World) (S : DS) (dv lv : Value) (mb : Nat) (zs : List Dl) : Prop where
  drv : W.ownsRow 0 116 3 dv S.dr.length (dcells zs)
  map : W.heap[mb]? = some (.map #[] 0)
  log : W.ownsRow 0 127 3 lv S.log.length (rcells S.log)
  dr : S.dr = zs.map Dl.x
  now : ∀ z ∈ zs, Cs W z.nb 26 (uv z.x.1).toArray
  dur : ∀ z ∈ zs, Cs W z.db 26 (uv z.x.2.1).toArray
  apart : (zs.flatMap fun z => [z.nb, z.db]).Nodup
theorem DLay.rest {W : World} {g : Nat} {S : DS} {dv lv : Value} {mb : Nat} {zs : List Dl} (h : DLay W g S dv lv mb zs) : DRest W S dv lv mb zs := ⟨h.drv, h.map, h.log, h.dr, h.now, h.dur, h.apart⟩
theorem DRest.lay {W : World} {g : Nat} {S : DS} {dv lv : Value} {mb : Nat} {zs : List Dl} (h : DRest W S dv lv mb zs) (ha : Cs W g 113 #[dv, .map (some mb), lv, .int .i64 S.fuse, .bool S.down, .int .i64 S.wr]) : DLay W g S dv lv mb zs := ⟨ha, h.drv, h.map, h.log, h.dr, h.now, h.dur, h.apart⟩
theorem DRest.of {W : World} {S S' : DS} {dv lv : Value} {mb : Nat} {zs : List Dl} (h : DRest W S dv lv mb zs) (h1 : S'.dr = S.dr) (h2 : S'.log = S.log) : DRest W S' dv lv mb zs :=
  ⟨by rw [h1]; exact h.drv, h.map, by rw [h2]; exact h.log, by rw [h1]; exact h.dr, h.now, h.dur, h.apart⟩
theorem DRest.fr {W W' : World} {G : Nat → Prop} {S : DS} {dv lv : Value} {mb : Nat} {zs : List Dl} (h : DRest W S dv lv mb zs) (hf : Fr G W W')
    (n1 : ∀ b, dv.ownBlock = some b → ¬ G b) (n2 : ¬ G mb) (n3 : ∀ b, lv.ownBlock = some b → ¬ G b) (n4 : ∀ z ∈ zs, ¬ G z.nb ∧ ¬ G z.db) : DRest W' S dv lv mb zs :=
  ⟨own_fr h.drv hf n1, (hf.block mb (map_lt h.map) n2).trans h.map, own_fr h.log hf n3, h.dr, fun z hz => (h.now z hz).fr hf (n4 z hz).1, fun z hz => (h.dur z hz).fr hf (n4 z hz).2, h.apart⟩
theorem fr_set (W : World) (b i : Nat) (u : Value) : Fr (fun j => j = b) W (W.setCell ⟨b, i, none⟩ u) := (Fr.refl (fun j => j = b) W).set (.inl rfl) u
theorem DLay.setArr {W : World} {g : Nat} {S : DS} {dv lv : Value} {mb : Nat} {zs : List Dl} (h : DLay W g S dv lv mb zs) (k : Nat) (u : Value) : DRest (W.setCell ⟨g, k, none⟩ u) S dv lv mb zs :=
  h.rest.fr (fr_set W g k u) (cs_own_ne h.arr h.drv (by decide)) (cs_map_ne h.arr h.map) (cs_own_ne h.arr h.log (by decide))
    (fun z hz => ⟨cs_ne h.arr (h.now z hz) (by decide), cs_ne h.arr (h.dur z hz) (by decide)⟩)
theorem DLay.arrSet {W : World} {g : Nat} {S : DS} {dv lv : Value} {mb : Nat} {zs : List Dl} (h : DLay W g S dv lv mb zs) (k : Nat) (u : Value) :
    Cs (W.setCell ⟨g, k, none⟩ u) g 113 ((#[dv, .map (some mb), lv, .int .i64 S.fuse, .bool S.down, .int .i64 S.wr] : Array Value).setIfInBounds k u) := heap_setCell_same W g k _ _ u h.arr
theorem DLay.setFuse {W : World} {g : Nat} {S : DS} {dv lv : Value} {mb : Nat} {zs : List Dl} (h : DLay W g S dv lv mb zs) (f : Int) : DLay (W.setCell ⟨g, 3, none⟩ (.int .i64 f)) g { S with fuse := f } dv lv mb zs :=
  ((h.setArr 3 _).of (S' := { S with fuse := f }) rfl rfl).lay (h.arrSet 3 _)
theorem DLay.setDown {W : World} {g : Nat} {S : DS} {dv lv : Value} {mb : Nat} {zs : List Dl} (h : DLay W g S dv lv mb zs) (b : Bool) : DLay (W.setCell ⟨g, 4, none⟩ (.bool b)) g { S with down := b } dv lv mb zs :=
  ((h.setArr 4 _).of (S' := { S with down := b }) rfl rfl).lay (h.arrSet 4 _)
theorem DLay.setWr {W : World} {g : Nat} {S : DS} {dv lv : Value} {mb : Nat} {zs : List Dl} (h : DLay W g S dv lv mb zs) (x : Int) : DLay (W.setCell ⟨g, 5, none⟩ (.int .i64 x)) g { S with wr := x } dv lv mb zs :=
  ((h.setArr 5 _).of (S' := { S with wr := x }) rfl rfl).lay (h.arrSet 5 _)
theorem nodup_apart {zs : List Dl} (h : (zs.flatMap fun z => [z.nb, z.db]).Nodup) : ∀ (i k : Nat) (z y : Dl), zs[i]? = some z → zs[k]? = some y → z.nb ≠ y.db ∧ (i ≠ k → z.nb ≠ y.nb ∧ z.db ≠ y.db) := by
  induction zs with
  | nil => intro i k z y hz; simp at hz
  | cons x r ih =>
    simp only [List.flatMap_cons, List.cons_append, List.nil_append, List.nodup_cons, List.mem_cons, List.mem_flatMap, not_or, not_exists, not_and] at h
    obtain ⟨⟨h1, h2⟩, h3, h4⟩ := h
    intro i k z y hz hy
    rcases i with _ | i <;> rcases k with _ | k
    · simp at hz hy; subst hz; subst hy; exact ⟨h1, fun e => absurd rfl e⟩
    · simp at hz hy
      subst hz
      have hm := List.mem_of_getElem? hy
      have a := h2 y hm
      have b := h3 y hm
      simp at a b
      exact ⟨a.2, fun _ => ⟨a.1, b.2⟩⟩
    · simp at hz hy
      subst hy
      have hm := List.mem_of_getElem? hz
      have a := h2 z hm
      have b := h3 z hm
      simp at a b
      exact ⟨fun e => b.1 e.symm, fun _ => ⟨fun e => a.1 e.symm, fun e => b.2 e.symm⟩⟩
    · simp at hz hy
      have := ih h4 i k z y hz hy
      exact ⟨this.1, fun e => this.2 (by omega)⟩
theorem dcells_set (zs : List Dl) (i : Nat) (z z' : Dl) (h : zs[i]? = some z) (hc : z'.cells = z.cells) : dcells (zs.set i z') = dcells zs := by
  induction zs generalizing i with
  | nil => simp at h
  | cons y r ih =>
    rcases i with _ | i
    · simp at h; subst h; simp [dcells, hc]
    · have := ih i (by simpa using h)
      simp only [List.set_cons_succ, dcells, List.flatMap_cons] at this ⊢
      rw [this]
theorem apart_set (zs : List Dl) (i : Nat) (z z' : Dl) (h : zs[i]? = some z) (h1 : z'.nb = z.nb) (h2 : z'.db = z.db) : (zs.set i z').flatMap (fun z => [z.nb, z.db]) = zs.flatMap (fun z => [z.nb, z.db]) := by
  induction zs generalizing i with
  | nil => simp at h
  | cons y r ih =>
    rcases i with _ | i
    · simp at h; subst h; simp [h1, h2]
    · have := ih i (by simpa using h)
      simp only [List.set_cons_succ, List.flatMap_cons] at this ⊢
      rw [this]
def DS.setNow (S : DS) (i j v : Nat) : DS := { S with dr := S.dr.set i ((S.drv i).1.set j v, (S.drv i).2.1, (S.drv i).2.2) }
def DS.setDur (S : DS) (i j v : Nat) : DS := { S with dr := S.dr.set i ((S.drv i).1, (S.drv i).2.1.set j v, (S.drv i).2.2) }
theorem set_mem {α : Type} (l : List α) (i : Nat) (a : α) (y : α) (h : y ∈ l.set i a) : ∃ k, (l.set i a)[k]? = some y ∧ k < l.length := by
  obtain ⟨k, hk, e⟩ := List.getElem_of_mem h
  exact ⟨k, by rw [List.getElem?_eq_getElem hk, e], by simpa using hk⟩
theorem DLay.now_set {W : World} {g : Nat} {S : DS} {dv lv : Value} {mb : Nat} {zs : List Dl} (h : DLay W g S dv lv mb zs) (i j v : Nat) (z : Dl) (hz : zs[i]? = some z) (hx : z.x = S.drv i) :
    DLay (W.setCell ⟨z.nb, j, none⟩ (.int .u64 (v : Int))) g (S.setNow i j v) dv lv mb (zs.set i ⟨z.nb, z.db, (z.x.1.set j v, z.x.2.1, z.x.2.2)⟩) := by
  have hf := fr_set W z.nb j (.int .u64 (v : Int))
  have hzm := List.mem_of_getElem? hz
  have hcz := h.now z hzm
  have hcell : (⟨z.nb, z.db, (z.x.1.set j v, z.x.2.1, z.x.2.2)⟩ : Dl).cells = z.cells := by simp [Dl.cells]
  have hlen : (S.setNow i j v).dr.length = S.dr.length := by simp [DS.setNow]
  have hil : i < zs.length := (List.getElem?_eq_some_iff.1 hz).1
  refine ⟨h.arr.fr hf (Ne.symm (cs_ne h.arr hcz (by decide))), ?_, (hf.block mb (map_lt h.map) (cs_map_ne hcz h.map)).trans h.map, own_fr h.log hf (cs_own_ne hcz h.log (by decide)), ?_, ?_, ?_, ?_⟩
  · rw [hlen, dcells_set zs i z _ hz hcell]
    exact own_fr h.drv hf (cs_own_ne hcz h.drv (by decide))
  · simp only [DS.setNow, List.map_set, ← hx]
    rw [h.dr]
  · intro y hy
    obtain ⟨k, hk, hkl⟩ := set_mem _ _ _ _ hy
    by_cases e : k = i
    · subst e
      rw [List.getElem?_set_self hil] at hk
      injection hk with hk
      subst hk
      have := heap_setCell_same W z.nb j (uv z.x.1).toArray 26 (.int .u64 (v : Int)) hcz
      show (W.setCell _ _).heap[z.nb]? = _
      rw [this, ← uv_set]
      simp
    · rw [List.getElem?_set_ne (Ne.symm e)] at hk
      exact (h.now y (List.mem_of_getElem? hk)).fr hf ((nodup_apart h.apart k i y z hk hz).2 e).1
  · intro y hy
    obtain ⟨k, hk, hkl⟩ := set_mem _ _ _ _ hy
    by_cases e : k = i
    · subst e
      rw [List.getElem?_set_self hil] at hk
      injection hk with hk
      subst hk
      exact (h.dur z hzm).fr hf (Ne.symm (nodup_apart h.apart k k z z hz hz).1)
    · rw [List.getElem?_set_ne (Ne.symm e)] at hk
      exact (h.dur y (List.mem_of_getElem? hk)).fr hf (Ne.symm (nodup_apart h.apart i k z y hz hk).1)
  · have := h.apart
    rwa [← apart_set zs i z ⟨z.nb, z.db, (z.x.1.set j v, z.x.2.1, z.x.2.2)⟩ hz rfl rfl] at this
theorem DLay.dur_set {W : World} {g : Nat} {S : DS} {dv lv : Value} {mb : Nat} {zs : List Dl} (h : DLay W g S dv lv mb zs) (i j v : Nat) (z : Dl) (hz : zs[i]? = some z) (hx : z.x = S.drv i) :
    DLay (W.setCell ⟨z.db, j, none⟩ (.int .u64 (v : Int))) g (S.setDur i j v) dv lv mb (zs.set i ⟨z.nb, z.db, (z.x.1, z.x.2.1.set j v, z.x.2.2)⟩) := by
  have hf := fr_set W z.db j (.int .u64 (v : Int))
  have hzm := List.mem_of_getElem? hz
  have hcz := h.dur z hzm
  have hcell : (⟨z.nb, z.db, (z.x.1, z.x.2.1.set j v, z.x.2.2)⟩ : Dl).cells = z.cells := by simp [Dl.cells]
  have hlen : (S.setDur i j v).dr.length = S.dr.length := by simp [DS.setDur]
  have hil : i < zs.length := (List.getElem?_eq_some_iff.1 hz).1
  refine ⟨h.arr.fr hf (Ne.symm (cs_ne h.arr hcz (by decide))), ?_, (hf.block mb (map_lt h.map) (cs_map_ne hcz h.map)).trans h.map, own_fr h.log hf (cs_own_ne hcz h.log (by decide)), ?_, ?_, ?_, ?_⟩
  · rw [hlen, dcells_set zs i z _ hz hcell]
    exact own_fr h.drv hf (cs_own_ne hcz h.drv (by decide))
  · simp only [DS.setDur, List.map_set, ← hx]
    rw [h.dr]
  · intro y hy
    obtain ⟨k, hk, hkl⟩ := set_mem _ _ _ _ hy
    by_cases e : k = i
    · subst e
      rw [List.getElem?_set_self hil] at hk
      injection hk with hk
      subst hk
      exact (h.now z hzm).fr hf (nodup_apart h.apart k k z z hz hz).1
    · rw [List.getElem?_set_ne (Ne.symm e)] at hk
      exact (h.now y (List.mem_of_getElem? hk)).fr hf (nodup_apart h.apart k i y z hk hz).1
  · intro y hy
    obtain ⟨k, hk, hkl⟩ := set_mem _ _ _ _ hy
    by_cases e : k = i
    · subst e
      rw [List.getElem?_set_self hil] at hk
      injection hk with hk
      subst hk
      have := heap_setCell_same W z.db j (uv z.x.2.1).toArray 26 (.int .u64 (v : Int)) hcz
      show (W.setCell _ _).heap[z.db]? = _
      rw [this, ← uv_set]
      simp
    · rw [List.getElem?_set_ne (Ne.symm e)] at hk
      exact (h.dur y (List.mem_of_getElem? hk)).fr hf ((nodup_apart h.apart k i y z hk hz).2 e).2
  · have := h.apart
    rwa [← apart_set zs i z ⟨z.nb, z.db, (z.x.1, z.x.2.1.set j v, z.x.2.2)⟩ hz rfl rfl] at this
theorem DLay.log_set {W W1 : World} {g : Nat} {S : DS} {dv lv lv' : Value} {mb : Nat} {zs : List Dl} {l' : List (Nat × Nat × Nat)} (h : DLay W g S dv lv mb zs) (hg : W.grownBy W1 lv.ownBlock)
    (hr : W1.ownsRow 0 127 3 lv' l'.length (rcells l')) : DLay (W1.setCell ⟨g, 2, none⟩ lv') g { S with log := l' } dv lv' mb zs ∧ DLay W1 g S dv lv mb zs = DLay W1 g S dv lv mb zs := by
  refine ⟨?_, rfl⟩
  have hf : Fr (fun j => lv.ownBlock = some j) W W1 := ⟨hg.os, hg.tape, hg.output, hg.size, fun j hj hn => hg.block j hj (fun e => hn e.symm)⟩
  have ha : Cs W1 g 113 #[dv, .map (some mb), lv, .int .i64 S.fuse, .bool S.down, .int .i64 S.wr] := h.arr.fr hf (fun e => cs_own_ne h.arr h.log (by decide) g e rfl)
  have hd1 : W1.ownsRow 0 116 3 dv S.dr.length (dcells zs) := own_fr h.drv hf (fun b hb e => own_own_ne h.drv h.log (by decide) b b hb e rfl)
  have hm1 : W1.heap[mb]? = some (.map #[] 0) := (hf.block mb (map_lt h.map) (fun e => own_map_ne h.log h.map mb e rfl)).trans h.map
  have hn1 : ∀ z ∈ zs, Cs W1 z.nb 26 (uv z.x.1).toArray := fun z hz => (h.now z hz).fr hf (fun e => cs_own_ne (h.now z hz) h.log (by decide) z.nb e rfl)
  have hu1 : ∀ z ∈ zs, Cs W1 z.db 26 (uv z.x.2.1).toArray := fun z hz => (h.dur z hz).fr hf (fun e => cs_own_ne (h.dur z hz) h.log (by decide) z.db e rfl)
  have hL : DLay W1 g { S with log := l' } dv lv' mb zs → True := fun _ => trivial
  have hfs := fr_set W1 g 2 lv'
  have hr2 : (W1.setCell ⟨g, 2, none⟩ lv').ownsRow 0 127 3 lv' l'.length (rcells l') := own_fr hr hfs (cs_own_ne ha hr (by decide))
  exact ⟨heap_setCell_same W1 g 2 _ _ lv' ha, own_fr hd1 hfs (cs_own_ne ha hd1 (by decide)), (hfs.block mb (map_lt hm1) (cs_map_ne ha hm1)).trans hm1, hr2, h.dr,
    fun z hz => (hn1 z hz).fr hfs (cs_ne ha (hn1 z hz) (by decide)), fun z hz => (hu1 z hz).fr hfs (cs_ne ha (hu1 z hz) (by decide)), h.apart⟩
end Go.Proofs.YtogchafnnkajfaaGreat
namespace Go.Proofs.YtogchafnnkajfaaGreat
set_option linter.unusedVariables false
open Go.RowKit
attribute [local go_sem] Oper.semAt_some
def DS.wput (S : DS) (i j v : Nat) : DS := { S.setNow i j v with log := S.log ++ [(i, j, v)], wr := S.wr + 1 }
def DS.burnt (S : DS) : DS := { S with fuse := if 0 < S.fuse then S.fuse - 1 else S.fuse }
def DS.writeE (S : DS) (d a : Int) : Int := if S.chk d a ≠ 0 then S.chk d a else if S.fuse = 1 then 5 else 0
def DS.write (S : DS) (d a : Int) (v : Nat) : DS :=
  if S.chk d a ≠ 0 then S else if S.fuse = 1 then { S with fuse := 0, down := true } else S.burnt.wput d.toNat a.toNat v
theorem DS.Ok.of {S : DS} (h : S.Ok) (f : Int) (b : Bool) (hf : 0 ≤ f ∧ f ≤ 9223372036854775807) : ({ S with fuse := f, down := b } : DS).Ok := ⟨h.nd, h.drv, h.log, hf, h.wr⟩
theorem drv_set (S : DS) (l : List (List Nat × List Nat × Bool)) (i k : Nat) (y : List Nat × List Nat × Bool) (hi : i < l.length) (e : S.dr = l.set i y) : S.drv k = if k = i then y else l[k]?.getD ([], [], false) := by
  unfold DS.drv
  rw [e]
  by_cases h : k = i
  · subst h; simp [hi]
  · rw [if_neg h, List.getElem?_set_ne (Ne.symm h)]
theorem DS.Ok.wput {S : DS} (h : S.Ok) {i j v : Nat} (hi : i < S.dr.length) (hj : j < (S.drv i).1.length) (hv : v < 18446744073709551616) : (S.wput i j v).Ok := by
  have hm : S.drv i ∈ S.dr := by unfold DS.drv; rw [List.getElem?_eq_getElem hi]; exact List.getElem_mem _
  have hd := h.drv _ hm
  have hlen : ∀ k, ((S.wput i j v).drv k).1.length = (S.drv k).1.length := by
    intro k
    rw [drv_set (S.wput i j v) S.dr i k _ hi rfl]
    by_cases e : k = i
    · subst e; rw [if_pos rfl]; simp
    · rw [if_neg e]; rfl
  refine ⟨by simp only [DS.wput, DS.setNow, List.length_set]; exact h.nd, ?_, ?_, h.fuse, by simp only [DS.wput]; have := h.wr; omega⟩
  · intro x hx
    simp only [DS.wput, DS.setNow] at hx
    rcases List.mem_or_eq_of_mem_set hx with hx | rfl
    · exact h.drv x hx
    · exact ⟨hd.1.set _ _ hv, hd.2.1, by simp; exact hd.2.2.1, by simp; exact hd.2.2.2⟩
  · intro r hr
    rw [hlen]
    simp only [DS.wput, DS.setNow, List.length_set] at hr ⊢
    rcases List.mem_append.1 hr with hr | hr
    · exact h.log r hr
    · simp at hr; subst hr; exact ⟨hi, hj, hv⟩
theorem rcells_snoc (l : List (Nat × Nat × Nat)) (r : Nat × Nat × Nat) : rcells (l ++ [r]) = rcells l ++ [.int .i64 (r.1 : Int), .int .i64 (r.2.1 : Int), .int .u64 (r.2.2 : Int)] := by simp [rcells]
theorem record_info : (Tryz.prog.info? 127).map (fun i => (i.zero, i.size, i.bytes)) = some (some (.agg #[.int .i64 0, .int .i64 0, .int .u64 0]), 3, 24) := by kernel_rfl
theorem DLay.keep {W W' : World} {g : Nat} {S : DS} {dv lv : Value} {mb : Nat} {zs : List Dl} (h : DLay W g S dv lv mb zs) (hb : Below W.heap.size W W') : DLay W' g S dv lv mb zs :=
  ⟨h.arr.below hb h.arr.lt, own_keepB h.drv hb, (hb.block mb (map_lt h.map)).trans h.map, own_keepB h.log hb, h.dr, fun z hz => (h.now z hz).below hb (h.now z hz).lt, fun z hz => (h.dur z hz).below hb (h.dur z hz).lt, h.apart⟩
def WriteP (W : World) (F : Nat → Prop) (g : Nat) (S : DS) (d a : Int) (v : Nat) (e : Ending) (W' : World) : Prop :=
  e = .returned (.int .i64 (S.writeE d a)) ∧ ∃ F', DskAt W' F' g (S.write d a v) ∧ Turn F F' W W'
def wider (F : Nat → Prop) (W : World) : Nat → Prop := fun j => F j ∨ W.heap.size ≤ j
theorem DIn.wider {F : Nat → Prop} {g : Nat} {dv lv : Value} {mb : Nat} {zs : List Dl} (h : DIn F g dv lv mb zs) (W : World) : DIn (wider F W) g dv lv mb zs :=
  ⟨.inl h.arr, .inl h.map, fun b hb => .inl (h.drv b hb), fun b hb => .inl (h.log b hb), fun z hz => .inl (h.now z hz), fun z hz => .inl (h.dur z hz)⟩
theorem turn_wider {F : Nat → Prop} {W W' : World} (h : Fr F W W') : Turn F (wider F W) W W' := ⟨h, fun j hj => hj⟩
theorem DIn.setz {F : Nat → Prop} {g : Nat} {dv lv : Value} {mb : Nat} {zs : List Dl} (h : DIn F g dv lv mb zs) (i : Nat) (z z' : Dl) (hz : zs[i]? = some z) (h1 : z'.nb = z.nb) (h2 : z'.db = z.db) : DIn F g dv lv mb (zs.set i z') := by
  have hm := List.mem_of_getElem? hz
  refine ⟨h.arr, h.map, h.drv, h.log, fun y hy => ?_, fun y hy => ?_⟩
  · rcases List.mem_or_eq_of_mem_set hy with hy | rfl
    · exact h.now y hy
    · rw [h1]; exact h.now z hm
  · rcases List.mem_or_eq_of_mem_set hy with hy | rfl
    · exact h.dur y hy
    · rw [h2]; exact h.dur z hm
set_option maxRecDepth 100000 in
set_option maxHeartbeats 2000000 in
theorem awrite_any (W : World) (F : Nat → Prop) (g : Nat) (S : DS) (d a : Int) (v : Nat) (h : DskAt W F g S) (hv : v < 18446744073709551616) (hlog : S.log.length ≤ 1000000) (hwr : S.wr ≤ 1000000000) :
    Calls Tryz.prog 181 #[.pointer (some ⟨g, 0, none⟩), .int .i64 d, .int .i64 a, .int .u64 (v : Int)] W (WriteP W F g S d a v) := by
  have hb0 := ((Below.refl _ W).alloc (Nat.le_refl _) (.cells #[.int .i64 d, .int .i64 a] 125)).alloc (by simp) (.cells (fv g [ckPow S, ckLoc S d, ckPla S d a, ckMis S d]).toArray 237)
  have HDk := Lib.hid (h.keep hb0)
  have HB := Cs.new (W.alloc (.cells #[.int .i64 d, .int .i64 a] 125)) 237 (fv g [ckPow S, ckLoc S d, ckPla S d a, ckMis S d]).toArray
  rw [World.size_alloc] at HB
  have HB := Lib.hid HB
  have HP := Lib.hid ((Cs.new W 125 #[.int .i64 d, .int .i64 a]).alloc (.cells (fv g [ckPow S, ckLoc S d, ckPla S d a, ckMis S d]).toArray 237))
  have HE : Hid (firstE ([ckPow S, ckLoc S d, ckPla S d a, ckMis S d].map (·.2)) = S.chk d a) := rfl
  have hgW := h.lt.1
  go_enter Tryz.func181, Tryz.ntmps181
  go_wp2_with fail
  refine (check_any _ g (W.heap.size + 1) 4 d a [ckPow S, ckLoc S d, ckPla S d a, ckMis S d] rfl (by omega) HB.out (answers4 HDk.out)).mono ?_
  rintro e w1 ⟨rfl, hb1⟩
  rw [HE.out]
  have hB1 := hb0.trans (hb1.mono hb0.size)
  have HD1 := Lib.hid (HDk.out.keep hb1)
  have HP1 := Lib.hid (HP.out.below hb1 HP.out.lt)
  clear HB HP HDk hb1
  by_cases h0 : S.chk d a = 0
  · have HC0 := Lib.hid h0
    rw [h0]
    obtain ⟨i, j, rfl, rfl, hi, hj, hdn, hms⟩ := chk_zero h0
    obtain ⟨ho, dv, lv, mb, zs, hl, hin⟩ := HD1.out
    have HL := Lib.hid hl
    obtain ⟨x0, x1, x2, x3, x4, x5⟩ := hl.cells
    have f3 : w1.frozen? ⟨g, 3, none⟩ = false := hl.arr.free 3
    have f4 : w1.frozen? ⟨g, 4, none⟩ = false := hl.arr.free 4
    have hfu := ho.fuse
    clear h0 hdn hms hl x0 x1 x2 x4 x5
    have x4 := HL.out.cells.2.2.2.2.1
    go_upto_if 32 with (fail)
    go_cut [] (fun wx => DLay wx g S.burnt dv lv mb zs ∧ Fr F W wx ∧ Cs wx W.heap.size 125 #[.int .i64 (i : Int), .int .i64 (j : Int)] ∧ Hid (S.fuse ≠ 1))
    case first =>
      rcases Nat.lt_trichotomy S.fuse.toNat 1 with hfz | hfz | hfz
      · have hz1 : ¬ 0 < S.fuse := by omega
        have HBu : Hid (S.burnt = S) := by show _ = _; unfold DS.burnt; rw [if_neg hz1]
        have h1 : Hid (S.fuse ≠ 1) := by show _ ≠ _; omega
        go_wp2_with fail
        go_meet
        case rel => exact ⟨by rw [HBu.out]; exact HL.out, Fr.of_below hB1, HP1.out, h1⟩
      · have hS1 : S.fuse = 1 := by omega
        have HR : Hid (S.writeE (i : Int) (j : Int) = 5) := by show _ = _; unfold DS.writeE; rw [if_neg (by simpa using HC0.out), if_pos hS1]
        have HWr : Hid (S.write (i : Int) (j : Int) v = { S with fuse := 0, down := true }) := by show _ = _; unfold DS.write; rw [if_neg (by simpa using HC0.out), if_pos hS1]
        have HL3 := Lib.hid ((HL.out.setFuse 0).setDown true)
        have hOk := ho.of 0 true ⟨by omega, by omega⟩
        have hz1 : 0 < S.fuse := by omega
        rw [hS1] at x3
        clear hS1 hfz hfu
        have hFr : Fr F W ((w1.setCell ⟨g, 3, none⟩ (.int .i64 0)).setCell ⟨g, 4, none⟩ (.bool true)) := ((Fr.of_below hB1).set (.inl hin.arr) _).set (.inl hin.arr) _
        go_wp2_with fail
        go_ret
        exact ⟨by rw [HR.out]; rfl, F, by rw [HWr.out]; exact ⟨hOk, dv, lv, mb, zs, HL3.out, hin⟩, hFr, fun j hj => .inl hj⟩
      · have hz1 : 0 < S.fuse := by omega
        have hz2 : (S.fuse - 1 == 0) = false := by rw [beq_eq_false_iff_ne]; omega
        have HBu : Hid (S.burnt = { S with fuse := S.fuse - 1 }) := by show _ = _; unfold DS.burnt; rw [if_pos hz1]
        have h1 : Hid (S.fuse ≠ 1) := by show _ ≠ _; omega
        have HL3 := Lib.hid (HL.out.setFuse (S.fuse - 1))
        have hFr : Fr F W (w1.setCell ⟨g, 3, none⟩ (.int .i64 (S.fuse - 1))) := (Fr.of_below hB1).set (.inl hin.arr) _
        have hPg : Cs (w1.setCell ⟨g, 3, none⟩ (.int .i64 (S.fuse - 1))) W.heap.size 125 #[.int .i64 (i : Int), .int .i64 (j : Int)] := HP1.out.fr (fr_set _ _ _ _) (by show ¬ _ = _; omega)
        go_wp2_with fail
        go_meet
        case rel => exact ⟨by rw [HBu.out]; exact HL3.out, hFr, hPg, h1⟩
    case rest =>
      obtain ⟨hL2, hF2, hP2, hf1⟩ := hcut
      have hOb : S.burnt.Ok := ⟨ho.nd, ho.drv, ho.log, by unfold DS.burnt; dsimp only; split <;> omega, ho.wr⟩
      obtain ⟨b, cap, z, rfl, hcl, hz, hzm, hx, c0, c1, c2⟩ := hL2.one i hi
      have hzj : j < z.x.1.length := by rw [hx]; exact hj
      have hnd := ho.nd
      have hsz := (hOb.drv z.x (by rw [hL2.dr]; exact List.mem_map_of_mem hzm)).2.2.2
      have hcn := hL2.now z hzm
      have hcc := hcn.cell j
      rw [List.getElem?_toArray, uv_at _ _ hzj] at hcc
      have hfn : wc.frozen? ⟨z.nb, j, none⟩ = false := hcn.free j
      have x0 := hL2.cells.1
      have HL3 := Lib.hid (hL2.now_set i j v z hz hx)
      have hF3 := hF2.set (b := z.nb) (i := j) (.inl (hin.now z hzm)) (.int .u64 (v : Int))
      have HP3 := Lib.hid (hP2.fr (fr_set wc z.nb j (.int .u64 (v : Int))) (by show ¬ _ = _; have := cs_ne hP2 hcn (by decide); omega))
      have hin3 := hin.setz i z ⟨z.nb, z.db, (z.x.1.set j v, z.x.2.1, z.x.2.2)⟩ hz rfl rfl
      have HX := Lib.hid hx
      have hdl : S.burnt.dr.length = S.dr.length := rfl
      generalize hznb : z.nb = nb at *
      generalize z.x.1[j]?.getD 0 = v0 at *
      generalize hln : z.x.1.length = n at *
      rw [hdl] at x0
      have hdi : i < S.burnt.dr.length := hi
      generalize S.dr.length = nd at *
      have t1 : (0 : Int) ≤ (i : Int) := by omega
      have t2 : (i : Int) < (nd : Int) := by omega
      have t3 : (0 : Int) ≤ (j : Int) := by omega
      have t4 : (j : Int) < (n : Int) := by omega
      clear hL2 hF2 hP2 hz hzm hx c1 c2 hdl
      obtain ⟨Al, cl, hlv⟩ := own_form HL3.out.log
      subst hlv
      go_upto_region 11 with (fail)
      generalize hV : (wc.setCell _ _) = V at HL3 hF3 HP3 ⊢
      clear hV x0 x3 f3 f4 c0 hcc hfn
      have y1 := HL3.out.cells.2.1
      have y2 := HL3.out.cells.2.2.1
      obtain ⟨p0, p1⟩ : V.cell? ⟨W.heap.size, 0, none⟩ = some (.int .i64 (i : Int)) ∧ V.cell? ⟨W.heap.size, 1, none⟩ = some (.int .i64 (j : Int)) := ⟨HP3.out.cell 0, HP3.out.cell 1⟩
      have hmp : V.heap[mb]? = some (.map #[] 0) := HL3.out.map
      have hdel := fun ty => run_bad_delete V.drew mb (i : Int) (j : Int) hmp ty
      refine wp_region_mix 5 5 (by kernel_rfl) (by kernel_rfl) (fun w' => w'.cell? ⟨g, 1, none⟩ = some (.map (some mb)) ∧ w'.cell? ⟨W.heap.size, 0, none⟩ = some (.int .i64 (i : Int)) ∧ w'.cell? ⟨W.heap.size, 1, none⟩ = some (.int .i64 (j : Int))) ⟨y1, p0, p1⟩ ?_
      simp only [List.take_succ_cons, List.take_zero, List.drop_succ_cons, List.drop_zero]
      iterate 5
        refine ⟨?_, Or.inl ⟨by rfl, fun W' hS' => ?_⟩, fun _ _ _ h => h, ?_⟩
        rotate_left
        · obtain ⟨hs1, hs2, hs3⟩ := hS'
          go_simp
          with_reducible rfl
        simp only [Act.put, List.setIfInBounds_toArray, List.set_cons_zero, List.set_cons_succ]
      show wpSeqT _ _ _ _ _ _ _ _ _
      refine wpSeqT_list _ _ _ _ (by omega) ?_
      go_upto_region 12 with (fail)
      obtain ⟨ir, hir, hz0, hz1, hz2⟩ := info_parts record_info
      have hgV : g < V.heap.size := HL3.out.arr.lt
      have hWV : W.heap.size < V.heap.size := HP3.out.lt
      have hlg := cs_own_ne HL3.out.arr HL3.out.log (by decide)
      have hlp := cs_own_ne HP3.out HL3.out.log (by decide)
      have HLd := Lib.hid (HL3.out.log)
      refine wp_region_mix 8 12 (by kernel_rfl) (by kernel_rfl) (fun w' => w'.cell? ⟨g, 2, none⟩ = some (.slice Al (S.burnt.setNow i j v).log.length cl) ∧ w'.cell? ⟨W.heap.size, 0, none⟩ = some (.int .i64 (i : Int)) ∧ w'.cell? ⟨W.heap.size, 1, none⟩ = some (.int .i64 (j : Int))) ⟨y2, p0, p1⟩ ?_
      simp only [List.take_succ_cons, List.take_zero, List.drop_succ_cons, List.drop_zero]
      iterate 8
        refine ⟨?_, Or.inl ⟨by rfl, fun W' hS' => ?_⟩, fun _ _ _ h => h, ?_⟩
        rotate_left
        · obtain ⟨hs1, hs2, hs3⟩ := hS'
          go_simp
          with_reducible rfl
        simp only [Act.put, List.setIfInBounds_toArray, List.set_cons_zero, List.set_cons_succ]
      show wpSeqT _ _ _ _ _ _ _ _ _
      refine wpSeqT_step (fun K hK => ?_)
      go_simp
      have q2 := (World.cell?_alloc_lt V (.cells #[.int .i64 (i : Int), .int .i64 (j : Int), .int .u64 (v : Int)] 127) ⟨g, 2, none⟩ hgV).trans y2
      have q3 := (World.cell?_alloc_lt V (.cells #[.int .i64 (i : Int), .int .i64 (j : Int), .int .u64 (v : Int)] 127) ⟨W.heap.size, 0, none⟩ hWV).trans p0
      have q4 := (World.cell?_alloc_lt V (.cells #[.int .i64 (i : Int), .int .i64 (j : Int), .int .u64 (v : Int)] 127) ⟨W.heap.size, 1, none⟩ hWV).trans p1
      refine hK _ _ (fun _ => ⟨q2, q3, q4⟩) ?_
      clear hK K
      refine wpSeqT_step (fun K hK => ?_)
      refine step_append_reads _ (by rfl) (.tmp 68) (.tmp 72) _ (by rfl) 0 127 ir _ 3 24 Tryz.underlying111 hir hz0 hz1 hz2 rfl (by omega) (.slice Al (S.burnt.setNow i j v).log.length cl) S.log.length (rcells S.log) (by rfl) (World.ownsRow.alloc (World.ownsRow.drew (World.ownsRow.drew HLd.out)) _) (some ⟨V.heap.size, 0, none⟩) 1 1 [.int .i64 (i : Int), .int .i64 (j : Int), .int .u64 (v : Int)] (by rfl) (by rfl) (Reads.new _ _ _) (by simp [Value.oneCell']) (by simp only [maxLen]; omega) (by omega) (Nat.zero_le _) ?_
      intro v5 w5 hown5 hg5 hat5
      obtain ⟨A5, c5, hv5⟩ := own_form hown5
      subst hv5
      have s2 := hg5.cell (a := ⟨g, 2, none⟩) q2 (fun e => hlg g e.symm rfl)
      have s3 := hg5.cell (a := ⟨W.heap.size, 0, none⟩) q3 (fun e => hlp _ e.symm rfl)
      have s4 := hg5.cell (a := ⟨W.heap.size, 1, none⟩) q4 (fun e => hlp _ e.symm rfl)
      refine hK _ _ (fun _ => ⟨s2, s3, s4⟩) ?_
      clear hK K q2 q3 q4
      simp only [Act.put, List.setIfInBounds_toArray, List.set_cons_zero, List.set_cons_succ]
      iterate 2
        refine wpSeqT_step (fun K hK => ?_)
        go_simp
        refine hK _ _ (fun _ => ⟨s2, s3, s4⟩) ?_
        clear hK K
      refine wpSeqT_list _ _ _ _ (by omega) ?_
      have hbV : Below V.heap.size V (V.drew.drew.alloc (.cells #[.int .i64 (i : Int), .int .i64 (j : Int), .int .u64 (v : Int)] 127)) := (((Below.refl _ V).drew).drew).alloc (Nat.le_refl _) _
      have hLa := HL3.out.keep hbV
      have hr5 : w5.ownsRow 0 127 3 (.slice A5 (S.log.length + 1) c5) (S.log ++ [(i, j, v)]).length (rcells (S.log ++ [(i, j, v)])) := by
        rw [rcells_snoc, List.length_append]; exact hown5
      have HLf := Lib.hid ((hLa.log_set (l' := S.log ++ [(i, j, v)]) hg5 hr5).1.setWr (S.wr + 1))
      have hA5 := hLa.arr.grown hg5 (fun e => hlg g e.symm rfl)
      have u5 : w5.cell? ⟨g, 5, none⟩ = some (.int .i64 S.wr) := hA5.cell 5
      have f2 := hA5.free 2
      have f5 := hA5.free 5
      have hFa : Fr F W w5 := ((hF3.drew).drew.alloc _).trans (Fr.mono (G := fun k => (Value.slice Al (S.burnt.setNow i j v).log.length cl).ownBlock = some k) ⟨hg5.os, hg5.tape, hg5.output, hg5.size, fun k hk hn => hg5.block k hk (fun e => hn e.symm)⟩ (fun k _ hk => hin3.log k hk))
      have hFf := (hFa.set (i := 2) (.inl hin.arr) (.slice A5 (S.log.length + 1) c5)).set (i := 5) (.inl hin.arr) (.int .i64 (S.wr + 1))
      have hdf : DIn (wider F W) g (.slice (some ⟨b, 0, none⟩) S.burnt.dr.length cap) (.slice A5 (S.log.length + 1) c5) mb (zs.set i ⟨nb, z.db, (z.x.1.set j v, z.x.2.1, z.x.2.2)⟩) := by
        have hw := hin3.wider W
        refine ⟨hw.arr, hw.map, hw.drv, fun k hk => ?_, hw.now, hw.dur⟩
        rcases hat5 with e | e
        · rw [e] at hk; exact hw.log k hk
        · rw [e] at hk; injection hk with hk
          refine .inr ?_
          rw [← hk]
          simp; omega
      have hOk := hOb.wput (i := i) (j := j) (v := v) hdi (by exact hj) hv
      have HR : Hid (S.writeE (i : Int) (j : Int) = 0) := by show _ = _; unfold DS.writeE; rw [if_neg (by simpa using HC0.out), if_neg hf1.out]
      have HWr : Hid (S.write (i : Int) (j : Int) v = S.burnt.wput i j v) := by show _ = _; unfold DS.write; rw [if_neg (by simpa using HC0.out), if_neg hf1.out, Int.toNat_natCast, Int.toNat_natCast]
      have hw0 := ho.wr
      clear hown5 hg5 hat5 hr5 hLa hA5 s3 s4 y1 y2 p0 p1 hmp hdel
      go_wp2_with fail
      go_ret
      exact ⟨by rw [HR.out]; rfl, wider F W, by rw [HWr.out]; exact ⟨hOk, _, _, mb, _, HLf.out, hdf⟩, turn_wider hFf⟩
  · have hz0 : (S.chk d a != 0) = true := by simpa using h0
    have HR : Hid (S.writeE d a = S.chk d a) := by show _ = _; unfold DS.writeE; rw [if_pos h0]
    have HW : Hid (S.write d a v = S) := by show _ = _; unfold DS.write; rw [if_pos h0]
    clear h0
    go_wp2_with fail
    go_ret
    exact ⟨by rw [HR.out]; rfl, F, by rw [HW.out]; exact HD1.out, Turn.of_below hB1⟩
end Go.Proofs.YtogchafnnkajfaaGreat
