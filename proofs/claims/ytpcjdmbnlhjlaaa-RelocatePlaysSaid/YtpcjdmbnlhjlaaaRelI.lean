/-
  relocate: Open, the program's and the reference's.
-/
import Derived.Test.YtpcjdmbnlhjlaaaRelH
import Derived.Laws.StructEq
import Derived.ChangeKeysEq
namespace Go.Proofs.Ytpcjdmbnlhjlaaa
set_option linter.unusedVariables false
open Go.RowKit
attribute [local go_sem] Oper.semAt_some m_size m_read m_write m_flush

theorem arr2_under : Try.prog.underlying 106 = some (.array 2 3) := by kernel_rfl
theorem int_under2 : Try.prog.underlying 3 = some (.int .i64) := by kernel_rfl
theorem int_cells : Try.prog.cellsOf 3 = 1 := by kernel_rfl
theorem eqint (n : Nat) (a c : Int) (w : World) : Sem.run Try.prog (Op.equalIn (n + 1) 3 (.int .i64 a) (.int .i64 c)) w = .ok (a == c) w := by
  simp only [Op.equalIn, Sem.run_bind, run_underlying int_under2, Result.andThen_ok]
  rfl
theorem part0 (a b : Int) (w : World) : (part 3 #[.int .i64 a, .int .i64 b] 0).run Try.prog w = .ok (.int .i64 a) w := by kernel_rfl
theorem part1 (a b : Int) (w : World) : (part 3 #[.int .i64 a, .int .i64 b] 1).run Try.prog w = .ok (.int .i64 b) w := by kernel_rfl
theorem eq2_any (a b c d : Int) (w : World) : Sem.run Try.prog (Op.equalIn 10000 106 (.agg #[.int .i64 a, .int .i64 b]) (.agg #[.int .i64 c, .int .i64 d])) w = .ok (a == c && b == d) w := by
  obtain ⟨i0, hi0, hz0, hz1, hz2⟩ := info_parts int_info
  have := run_equalIn_array (P := Try.prog) w 9999 #[.int .i64 a, .int .i64 b] #[.int .i64 c, .int .i64 d] arr2_under hi0
  rw [this, int_cells, show List.range 2 = [0, 1] from rfl]
  simp only [Op.eqItems, Sem.run_bind, Nat.zero_mul, Nat.one_mul, part0, Result.andThen_ok]
  rw [eqint 9998]
  simp only [Result.andThen_ok]
  cases h1 : (a == c)
  · rfl
  · simp only [Bool.not_true, Bool.false_eq_true, if_false, Sem.run_bind, part1, Result.andThen_ok]
    rw [eqint 9998]
    cases h2 : (b == d) <;> rfl

/-- What Open answers. -/
def opE (n0 n1 : Nat) (ext done : Int) : Int :=
  if ext < 1 ∨ 1024 < ext then 1 else if n0 ≠ n1 ∨ n0 % ext.toNat ≠ 0 then 3 else if done < 0 ∨ ((n0 / ext.toNat : Nat) : Int) < done then 1 else 0

theorem mod_wrap (a b : Nat) (h : a ≤ 1000000000000) : IntKind.i64.wrap ((a : Int) % (b : Int)) = ((a % b : Nat) : Int) := by
  have hle : a % b ≤ a := Nat.mod_le a b
  rw [← Int.natCast_emod]
  generalize a % b = q at *
  rw [IntWalk.i64_in _ (by omega)]

def MoverNew (W W' : World) (m s0 s1 : Nat) (ext done : Int) : Prop := W.heap.size ≤ m ∧ Cs W' m 80 #[spanV s0, spanV s1, .int .i64 ext, .int .i64 done, .bool false]
/-- What Open leaves. -/
def OpenP34 (W : World) (s0 s1 n0 n1 : Nat) (ext done : Int) (e : Ending) (W' : World) : Prop :=
  ∃ v, e = .returned (.tuple #[v, .int .i64 (opE n0 n1 ext done)]) ∧ Below W.heap.size W W' ∧ (opE n0 n1 ext done ≠ 0 → v = .pointer none) ∧ (opE n0 n1 ext done = 0 → ∃ m, v = .pointer (some ⟨m, 0, none⟩) ∧ MoverNew W W' m s0 s1 ext done)

set_option maxRecDepth 100000 in
set_option maxHeartbeats 4000000 in
theorem ropen34_any (W : World) (g s0 s1 n0 n1 : Nat) (h0 : SpanAt W s0 g 0 n0) (h1 : SpanAt W s1 g 1 n1) (hn0 : n0 ≤ 65536) (hn1 : n1 ≤ 65536) (ext done : Int) :
    Calls Try.prog 33 #[.iface 114 (.pointer (some ⟨s0, 0, none⟩)), .iface 114 (.pointer (some ⟨s1, 0, none⟩)), .int .i64 ext, .int .i64 done] W (OpenP34 W s0 s1 n0 n1 ext done) := by
  have H0 := Lib.hid h0
  have H1 := Lib.hid h1
  have HZ : Hid (∀ k, Calls Try.prog 92 #[.pointer (some ⟨s1, 0, none⟩)] (W.drewN k) fun e w' => e = .returned (.int .i64 (n1 : Int)) ∧ w' = W.drewN k) := fun k => (ssize_any _ s1 g 1 n1 (Cs.below h1 (below_drewN (Below.refl W.heap.size W) k) (Cs.lt h1))).mono fun _ _ h => ⟨h.1, h.2.symm⟩
  clear h0 h1
  by_cases a1 : ext < 1
  · have HE : Hid (opE n0 n1 ext done = 1) := if_pos (.inl a1)
    go_enter Try.func33, Try.ntmps33
    go_wp2_with fail
    go_ret2
    exact ⟨_, by rw [HE.out]; rfl, Below.refl _ _, fun _ => rfl, fun e => by rw [HE.out] at e; cases e⟩
  · by_cases a2 : 1024 < ext
    · have HE : Hid (opE n0 n1 ext done = 1) := if_pos (.inr a2)
      go_enter Try.func33, Try.ntmps33
      go_wp2_with fail
      go_ret2
      exact ⟨_, by rw [HE.out]; rfl, Below.refl _ _, fun _ => rfl, fun e => by rw [HE.out] at e; cases e⟩
    · have hE1 : opE n0 n1 ext done = _ := if_neg (by rintro (h | h); exact a1 h; exact a2 h)
      obtain ⟨q, rfl⟩ : ∃ q : Nat, ext = (q : Int) := ⟨ext.toNat, by omega⟩
      rw [Int.toNat_natCast] at hE1
      have t0 : ¬ (q : Int) = 0 := by omega
      have t0n : ¬ q = 0 := by omega
      have em := mod_wrap n0 q (by omega)
      have ed := div_wrap n0 q (by omega)
      by_cases a3 : n0 ≠ n1 ∨ n0 % q ≠ 0
      · rw [if_pos a3] at hE1
        have HE := Lib.hid hE1
        have em2 : Int.tmod (n0 : Int) (q : Int) = ((n0 % q : Nat) : Int) := Int.ofNat_tmod n0 q
        have t3 : ∀ w : World, Sem.run Try.prog (Op.equalIn 10000 106 (.agg #[.int .i64 (n0 : Int), .int .i64 ((n0 % q : Nat) : Int)]) (.agg #[.int .i64 (n1 : Int), .int .i64 0])) w = .ok false w := by
          intro w
          rw [eq2_any]
          congr 1
          rw [Bool.and_eq_false_iff]
          rcases a3 with a3 | a3
          · left; simp; omega
          · right; rw [beq_eq_false_iff_ne]; omega
        clear hE1 ed
        generalize n0 % q = rm at *
        clear a3
        go_enter Try.func33, Try.ntmps33
        go_wp2_with fail
        refine (ssize_any W s0 g 0 n0 H0.out).mono ?_
        rintro e w' ⟨rfl, rfl⟩
        go_wp2_with fail
        go_quiet ((go_at_call 92; exact Calls.quiet_of_same (HZ.out _)))
        go_wp2_with fail
        go_ret2
        exact ⟨_, by rw [HE.out]; rfl, below_drewN (Below.refl _ _) _, fun _ => rfl, fun e => by rw [HE.out] at e; cases e⟩
      · rw [if_neg a3] at hE1
        have h3 : n0 = n1 ∧ n0 % q = 0 := by
          constructor
          · exact Classical.byContradiction fun h => a3 (.inl h)
          · exact Classical.byContradiction fun h => a3 (.inr h)
        obtain ⟨h3, h4⟩ := h3
        subst h3
        have em2 : Int.tmod (n0 : Int) (q : Int) = ((n0 % q : Nat) : Int) := Int.ofNat_tmod n0 q
        have t3 : ∀ w : World, Sem.run Try.prog (Op.equalIn 10000 106 (.agg #[.int .i64 (n0 : Int), .int .i64 0]) (.agg #[.int .i64 (n0 : Int), .int .i64 0])) w = .ok true w := by
          intro w
          rw [eq2_any]
          simp
        rw [h4] at em em2
        clear h4 a3
        by_cases a5 : done < 0
        · rw [if_pos (.inl a5)] at hE1
          have HE := Lib.hid hE1
          clear hE1
          go_enter Try.func33, Try.ntmps33
          go_wp2_with fail
          refine (ssize_any W s0 g 0 n0 H0.out).mono ?_
          rintro e w' ⟨rfl, rfl⟩
          go_wp2_with fail
          go_quiet ((go_at_call 92; exact Calls.quiet_of_same (HZ.out _)))
          go_wp2_with fail
          go_ret2
          exact ⟨_, by rw [HE.out]; rfl, below_drewN (Below.refl _ _) _, fun _ => rfl, fun e => by rw [HE.out] at e; cases e⟩
        · by_cases a6 : ((n0 / q : Nat) : Int) < done
          · rw [if_pos (.inr a6)] at hE1
            have HE := Lib.hid hE1
            clear hE1
            generalize n0 / q = dv at *
            go_enter Try.func33, Try.ntmps33
            go_wp2_with fail
            refine (ssize_any W s0 g 0 n0 H0.out).mono ?_
            rintro e w' ⟨rfl, rfl⟩
            go_wp2_with fail
            go_quiet ((go_at_call 92; exact Calls.quiet_of_same (HZ.out _)))
            go_wp2_with fail
            go_ret2
            exact ⟨_, by rw [HE.out]; rfl, below_drewN (Below.refl _ _) _, fun _ => rfl, fun e => by rw [HE.out] at e; cases e⟩
          · rw [if_neg (by rintro (h | h); exact a5 h; exact a6 h)] at hE1
            have HE := Lib.hid hE1
            clear hE1
            generalize n0 / q = dv at *
            go_enter Try.func33, Try.ntmps33
            go_wp2_with fail
            refine (ssize_any W s0 g 0 n0 H0.out).mono ?_
            rintro e w' ⟨rfl, rfl⟩
            go_wp2_with fail
            go_quiet ((go_at_call 92; exact Calls.quiet_of_same (HZ.out _)))
            go_wp2_with fail
            go_ret2
            exact ⟨_, by rw [HE.out]; rfl, (below_drewN (Below.refl _ _) _).alloc (Nat.le_refl _) _, fun e => absurd HE.out e, fun _ => ⟨W.heap.size, rfl, Nat.le_refl _, Cs.new (W.drewN _) _ _⟩⟩

/-- What the reference's Open leaves. -/
def ROpenP34 (W : World) (A0 A1 : Option Addr) (n0 n1 c0 c1 : Nat) (ext done : Int) (e : Ending) (W' : World) : Prop :=
  ∃ v, e = .returned (.tuple #[v, .int .i64 (opE n0 n1 ext done)]) ∧ Below W.heap.size W W' ∧ (opE n0 n1 ext done ≠ 0 → v = .pointer none) ∧ (opE n0 n1 ext done = 0 → ∃ m, v = .pointer (some ⟨m, 0, none⟩) ∧ W.heap.size ≤ m ∧ Cs W' m 52 #[.slice A0 n0 c0, .slice A1 n1 c1, .int .i64 ext, .int .i64 done, .bool false])
set_option maxRecDepth 100000 in
set_option maxHeartbeats 4000000 in
theorem rropen34_any (W : World) (A0 A1 : Option Addr) (n0 n1 c0 c1 : Nat) (hn0 : n0 ≤ 65536) (hn1 : n1 ≤ 65536) (ext done : Int) :
    Calls Try.prog 34 #[.slice A0 n0 c0, .slice A1 n1 c1, .int .i64 ext, .int .i64 done] W (ROpenP34 W A0 A1 n0 n1 c0 c1 ext done) := by
  by_cases a1 : ext < 1
  · have HE : Hid (opE n0 n1 ext done = 1) := if_pos (.inl a1)
    go_enter Try.func34, Try.ntmps34
    go_wp2_with fail
    go_ret2
    exact ⟨_, by rw [HE.out]; rfl, Below.refl _ _, fun _ => rfl, fun e => by rw [HE.out] at e; cases e⟩
  · by_cases a2 : 1024 < ext
    · have HE : Hid (opE n0 n1 ext done = 1) := if_pos (.inr a2)
      go_enter Try.func34, Try.ntmps34
      go_wp2_with fail
      go_ret2
      exact ⟨_, by rw [HE.out]; rfl, Below.refl _ _, fun _ => rfl, fun e => by rw [HE.out] at e; cases e⟩
    · have hE1 : opE n0 n1 ext done = _ := if_neg (by rintro (h | h); exact a1 h; exact a2 h)
      obtain ⟨q, rfl⟩ : ∃ q : Nat, ext = (q : Int) := ⟨ext.toNat, by omega⟩
      rw [Int.toNat_natCast] at hE1
      have t0 : ¬ (q : Int) = 0 := by omega
      have t0n : ¬ q = 0 := by omega
      have ed := div_wrap n0 q (by omega)
      have em2 : Int.tmod (n0 : Int) (q : Int) = ((n0 % q : Nat) : Int) := Int.ofNat_tmod n0 q
      by_cases a3 : n0 = n1
      · by_cases a4 : n0 % q = 0
        · rw [if_neg (by rintro (h | h); exact h a3; exact h a4)] at hE1
          have t3 : ((n0 : Int) != (n1 : Int)) = false := by simp; omega
          rw [a4] at em2
          by_cases a5 : done < 0
          · rw [if_pos (.inl a5)] at hE1
            have HE := Lib.hid hE1
            clear hE1 a3 a4
            go_enter Try.func34, Try.ntmps34
            go_wp2_with fail
            go_ret2
            exact ⟨_, by rw [HE.out]; rfl, Below.refl _ _, fun _ => rfl, fun e => by rw [HE.out] at e; cases e⟩
          · by_cases a6 : ((n0 / q : Nat) : Int) < done
            · rw [if_pos (.inr a6)] at hE1
              have HE := Lib.hid hE1
              clear hE1 a3 a4
              generalize n0 / q = dv at *
              go_enter Try.func34, Try.ntmps34
              go_wp2_with fail
              go_ret2
              exact ⟨_, by rw [HE.out]; rfl, Below.refl _ _, fun _ => rfl, fun e => by rw [HE.out] at e; cases e⟩
            · rw [if_neg (by rintro (h | h); exact a5 h; exact a6 h)] at hE1
              have HE := Lib.hid hE1
              clear hE1 a3 a4
              generalize n0 / q = dv at *
              go_enter Try.func34, Try.ntmps34
              go_wp2_with fail
              go_ret2
              exact ⟨_, by rw [HE.out]; rfl, (Below.refl _ _).alloc (Nat.le_refl _) _, fun e => absurd HE.out e, fun _ => ⟨W.heap.size, rfl, Nat.le_refl _, Cs.new W _ _⟩⟩
        · rw [if_pos (.inr a4)] at hE1
          have HE := Lib.hid hE1
          have t3 : ((n0 : Int) != (n1 : Int)) = false := by simp; omega
          have t4 : ((((n0 % q : Nat) : Int)) != 0) = true := by rw [bne_iff_ne]; omega
          clear hE1 a3
          generalize n0 % q = rm at *
          clear a4
          go_enter Try.func34, Try.ntmps34
          go_wp2_with fail
          go_ret2
          exact ⟨_, by rw [HE.out]; rfl, Below.refl _ _, fun _ => rfl, fun e => by rw [HE.out] at e; cases e⟩
      · rw [if_pos (.inl a3)] at hE1
        have HE := Lib.hid hE1
        have t3 : ((n0 : Int) != (n1 : Int)) = true := by simp; omega
        clear hE1 a3
        go_enter Try.func34, Try.ntmps34
        go_wp2_with fail
        go_ret2
        exact ⟨_, by rw [HE.out]; rfl, Below.refl _ _, fun _ => rfl, fun e => by rw [HE.out] at e; cases e⟩

end Go.Proofs.Ytpcjdmbnlhjlaaa
