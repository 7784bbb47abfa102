/-
  The reference's mover: Read, Write, Copy, Advance.
-/
import Derived.Test.YtpcjdmbnlhjlaaaRelJ
import Derived.BigRegion
namespace Go.Proofs.Ytpcjdmbnlhjlaaa
set_option linter.unusedVariables false
open Go.RowKit
attribute [local go_sem] Oper.semAt_some

/-- The reference's mover in memory. -/
structure RF (W : World) (rb bO cO bN cN n ext done : Nat) (cp : Bool) (old new : List Nat) : Prop where
  ref : Cs W rb 52 #[.slice (some ⟨bO, 0, none⟩) n cO, .slice (some ⟨bN, 0, none⟩) n cN, .int .i64 (ext : Int), .int .i64 (done : Int), .bool cp]
  ownO : W.ownsRow 0 32 1 (.slice (some ⟨bO, 0, none⟩) n cO) n (uv old)
  ownN : W.ownsRow 0 32 1 (.slice (some ⟨bN, 0, none⟩) n cN) n (uv new)
  ne : bO ≠ bN
  l0 : old.length = n
  l1 : new.length = n

section
variable {W : World} {rb bO cO bN cN n ext done : Nat} {cp : Bool} {old new : List Nat}
theorem RF.or (h : RF W rb bO cO bN cN n ext done cp old new) : bO ≠ rb := own_cs_ne h.ownO h.ref (by decide)
theorem RF.nr (h : RF W rb bO cO bN cN n ext done cp old new) : bN ≠ rb := own_cs_ne h.ownN h.ref (by decide)
theorem RF.fr (h : RF W rb bO cO bN cN n ext done cp old new) {W' : World} {G : Nat → Prop} (hf : Fr G W W') (h1 : ¬ G rb) (h2 : ¬ G bO) (h3 : ¬ G bN) : RF W' rb bO cO bN cN n ext done cp old new :=
  ⟨h.ref.fr hf h1, own_fr h.ownO hf (fun b hb => by simp [Value.ownBlock] at hb; rw [← hb]; exact h2), own_fr h.ownN hf (fun b hb => by simp [Value.ownBlock] at hb; rw [← hb]; exact h3), h.ne, h.l0, h.l1⟩
theorem RF.keep (h : RF W rb bO cO bN cN n ext done cp old new) {W' : World} (hb : Below W.heap.size W W') : RF W' rb bO cO bN cN n ext done cp old new := h.fr (G := fun _ => False) (Fr.of_below hb) (fun h => h) (fun h => h) (fun h => h)
theorem RF.setO (h : RF W rb bO cO bN cN n ext done cp old new) (j v : Nat) : RF (W.setCell ⟨bO, j, none⟩ (.int .u64 (v : Int))) rb bO cO bN cN n ext done cp (old.set j v) new := by
  have hf := fr_set W bO j (.int .u64 (v : Int))
  have hr := (h.ownO.stored j (.int .u64 (v : Int))).1
  rw [uv_set] at hr
  exact ⟨h.ref.fr hf (fun e => h.or e.symm), hr, own_fr h.ownN hf (fun b hb => by simp [Value.ownBlock] at hb; rw [← hb]; exact fun e => h.ne e.symm), h.ne, by rw [List.length_set]; exact h.l0, h.l1⟩
theorem RF.setN (h : RF W rb bO cO bN cN n ext done cp old new) (j v : Nat) : RF (W.setCell ⟨bN, j, none⟩ (.int .u64 (v : Int))) rb bO cO bN cN n ext done cp old (new.set j v) := by
  have hf := fr_set W bN j (.int .u64 (v : Int))
  have hr := (h.ownN.stored j (.int .u64 (v : Int))).1
  rw [uv_set] at hr
  exact ⟨h.ref.fr hf (fun e => h.nr e.symm), own_fr h.ownO hf (fun b hb => by simp [Value.ownBlock] at hb; rw [← hb]; exact h.ne), hr, h.ne, h.l0, by rw [List.length_set]; exact h.l1⟩
theorem RF.setD (h : RF W rb bO cO bN cN n ext done cp old new) (d : Nat) : RF (W.setCell ⟨rb, 3, none⟩ (.int .i64 (d : Int))) rb bO cO bN cN n ext d cp old new := by
  have hf := fr_set W rb 3 (.int .i64 (d : Int))
  exact ⟨heap_setCell_same W rb 3 _ _ _ h.ref, own_fr h.ownO hf (fun b hb => by simp [Value.ownBlock] at hb; rw [← hb]; exact h.or), own_fr h.ownN hf (fun b hb => by simp [Value.ownBlock] at hb; rw [← hb]; exact h.nr), h.ne, h.l0, h.l1⟩
theorem RF.setC (h : RF W rb bO cO bN cN n ext done cp old new) (c : Bool) : RF (W.setCell ⟨rb, 4, none⟩ (.bool c)) rb bO cO bN cN n ext done c old new := by
  have hf := fr_set W rb 4 (.bool c)
  exact ⟨heap_setCell_same W rb 4 _ _ _ h.ref, own_fr h.ownO hf (fun b hb => by simp [Value.ownBlock] at hb; rw [← hb]; exact h.or), own_fr h.ownN hf (fun b hb => by simp [Value.ownBlock] at hb; rw [← hb]; exact h.nr), h.ne, h.l0, h.l1⟩
theorem RF.cells (h : RF W rb bO cO bN cN n ext done cp old new) : W.cell? ⟨rb, 0, none⟩ = some (.slice (some ⟨bO, 0, none⟩) n cO) ∧ W.cell? ⟨rb, 1, none⟩ = some (.slice (some ⟨bN, 0, none⟩) n cN) ∧ W.cell? ⟨rb, 2, none⟩ = some (.int .i64 (ext : Int)) ∧ W.cell? ⟨rb, 3, none⟩ = some (.int .i64 (done : Int)) ∧ W.cell? ⟨rb, 4, none⟩ = some (.bool cp) :=
  ⟨h.ref.cell 0, h.ref.cell 1, h.ref.cell 2, h.ref.cell 3, h.ref.cell 4⟩
theorem uv_get {l : List Nat} {j : Nat} (h : j < l.length) : (uv l)[j]? = some (.int .u64 ((l[j]?.getD 0 : Nat) : Int)) := by
  simp [uv, h]
theorem RF.o (h : RF W rb bO cO bN cN n ext done cp old new) (j : Nat) (hj : j < n) : W.cell? ⟨bO, j, none⟩ = some (.int .u64 ((old[j]?.getD 0 : Nat) : Int)) ∧ W.frozen? ⟨bO, j, none⟩ = false :=
  ⟨(h.ownO.cellAt j (by omega)).trans (uv_get (by rw [h.l0]; exact hj)), h.ownO.frozenAt j⟩
theorem RF.n_ (h : RF W rb bO cO bN cN n ext done cp old new) (j : Nat) (hj : j < n) : W.cell? ⟨bN, j, none⟩ = some (.int .u64 ((new[j]?.getD 0 : Nat) : Int)) ∧ W.frozen? ⟨bN, j, none⟩ = false :=
  ⟨(h.ownN.cellAt j (by omega)).trans (uv_get (by rw [h.l1]; exact hj)), h.ownN.frozenAt j⟩
end

set_option maxRecDepth 100000 in
set_option maxHeartbeats 2000000 in
theorem rfread_no (W : World) (rb bO cO bN cN n ext done : Nat) (cp : Bool) (old new : List Nat) (h : RF W rb bO cO bN cN n ext done cp old new) (a : Int) (ha : a < 0 ∨ (n : Int) ≤ a) :
    Calls Try.prog 14 #[.pointer (some ⟨rb, 0, none⟩), .int .i64 a] W fun e w' => e = .returned (.tuple #[.int .u64 0, .int .i64 1]) ∧ W = w' := by
  obtain ⟨x0, x1, x2, x3, x4⟩ := h.cells
  by_cases h1 : a < 0
  · go_enter Try.func14, Try.ntmps14
    go_wp2_with fail
    go_ret2
    exact ⟨rfl, rfl⟩
  · have h2 : (n : Int) ≤ a := by omega
    go_enter Try.func14, Try.ntmps14
    go_wp2_with fail
    go_ret2
    exact ⟨rfl, rfl⟩
set_option maxRecDepth 100000 in
set_option maxHeartbeats 2000000 in
theorem rfread_any (W : World) (rb bO cO bN cN n ext done : Nat) (cp : Bool) (old new : List Nat) (h : RF W rb bO cO bN cN n ext done cp old new) (a : Nat) (he : 1 ≤ ext) (ha : a < n) (hn : n ≤ 65536) :
    Calls Try.prog 14 #[.pointer (some ⟨rb, 0, none⟩), .int .i64 (a : Int)] W fun e w' => e = .returned (.tuple #[.int .u64 (((if a / ext < done then new else old)[a]?.getD 0 : Nat) : Int), .int .i64 0]) ∧ Below W.heap.size W w' := by
  obtain ⟨x0, x1, x2, x3, x4⟩ := h.cells
  obtain ⟨y0, y1⟩ := h.o a ha
  obtain ⟨z0, z1⟩ := h.n_ a ha
  have e1 := div_wrap a ext (by omega)
  have t0 : ¬ (ext : Int) = 0 := by omega
  have t0n : ¬ ext = 0 := by omega
  have t1 : ¬ (a : Int) < 0 := by omega
  have t2 : ¬ (n : Int) ≤ (a : Int) := by omega
  clear h
  by_cases hd : a / ext < done
  · rw [if_pos hd]
    generalize old[a]?.getD 0 = vo at *
    generalize new[a]?.getD 0 = vn at *
    have t3 : ((a / ext : Nat) : Int) < (done : Int) := by omega
    generalize a / ext = q at *
    clear hd
    go_enter Try.func14, Try.ntmps14
    go_wp2_with fail
    go_quiet (fail)
    go_wp2_with fail
    go_ret2
    exact ⟨rfl, below_drewN (Below.refl _ _) _⟩
  · rw [if_neg hd]
    generalize old[a]?.getD 0 = vo at *
    generalize new[a]?.getD 0 = vn at *
    have t3 : ¬ ((a / ext : Nat) : Int) < (done : Int) := by omega
    generalize a / ext = q at *
    clear hd
    go_enter Try.func14, Try.ntmps14
    go_wp2_with fail
    go_quiet (fail)
    go_wp2_with fail
    go_ret2
    exact ⟨rfl, below_drewN (Below.refl _ _) _⟩

set_option maxRecDepth 100000 in
set_option maxHeartbeats 2000000 in
theorem rfwrite_no (W : World) (rb bO cO bN cN n ext done : Nat) (cp : Bool) (old new : List Nat) (h : RF W rb bO cO bN cN n ext done cp old new) (a : Int) (v : Nat) (ha : a < 0 ∨ (n : Int) ≤ a) :
    Calls Try.prog 16 #[.pointer (some ⟨rb, 0, none⟩), .int .i64 a, .int .u64 (v : Int)] W fun e w' => e = .returned (.int .i64 1) ∧ W = w' := by
  obtain ⟨x0, x1, x2, x3, x4⟩ := h.cells
  by_cases h1 : a < 0
  · go_enter Try.func16, Try.ntmps16
    go_wp2_with fail
    go_ret
    exact ⟨rfl, rfl⟩
  · have h2 : (n : Int) ≤ a := by omega
    go_enter Try.func16, Try.ntmps16
    go_wp2_with fail
    go_ret
    exact ⟨rfl, rfl⟩

def RFP (W : World) (rb bO cO bN cN n ext done : Nat) (cp : Bool) (old new : List Nat) (r : Int) (e : Ending) (W' : World) : Prop :=
  e = .returned (.int .i64 r) ∧ RF W' rb bO cO bN cN n ext done cp old new ∧ Fr (fun j => j = rb ∨ j = bO ∨ j = bN) W W'
set_option maxRecDepth 100000 in
set_option maxHeartbeats 4000000 in
theorem rfwrite_any (W : World) (rb bO cO bN cN n ext done : Nat) (cp : Bool) (old new : List Nat) (h : RF W rb bO cO bN cN n ext done cp old new) (a v : Nat) (he : 1 ≤ ext) (ha : a < n) (hn : n ≤ 65536) :
    Calls Try.prog 16 #[.pointer (some ⟨rb, 0, none⟩), .int .i64 (a : Int), .int .u64 (v : Int)] W (RFP W rb bO cO bN cN n ext done cp (if a / ext < done then old else old.set a v) (if a / ext < done ∨ (cp = true ∧ a / ext = done) then new.set a v else new) 0) := by
  obtain ⟨x0, x1, x2, x3, x4⟩ := h.cells
  obtain ⟨y0, y1⟩ := h.o a ha
  obtain ⟨z0, z1⟩ := h.n_ a ha
  have e1 := div_wrap a ext (by omega)
  have t0 : ¬ (ext : Int) = 0 := by omega
  have t0n : ¬ ext = 0 := by omega
  have t1 : ¬ (a : Int) < 0 := by omega
  have t2 : ¬ (n : Int) ≤ (a : Int) := by omega
  have HR := Lib.hid h
  by_cases hd : a / ext < done
  · rw [if_pos hd, if_pos (.inl hd)]
    have t3 : ((a / ext : Nat) : Int) < (done : Int) := by omega
    have t4 : ¬ (done : Int) ≤ ((a / ext : Nat) : Int) := by omega
    have HN := Lib.hid (h.setN a v)
    generalize a / ext = q at *
    clear hd h
    go_enter Try.func16, Try.ntmps16
    go_wp2_with fail
    go_ret
    exact ⟨rfl, HN.out, (Fr.refl _ W).set (.inl (.inr (.inr rfl))) _⟩
  · rw [if_neg hd]
    have t3 : ¬ ((a / ext : Nat) : Int) < (done : Int) := by omega
    have t4 : (done : Int) ≤ ((a / ext : Nat) : Int) := by omega
    have hO := h.setO a v
    obtain ⟨u0, u1, u2, u3, u4⟩ := hO.cells
    obtain ⟨w0, w1⟩ := hO.n_ a ha
    by_cases hq : a / ext = done
    · have t5 : (((a / ext : Nat) : Int) == (done : Int)) = true := by simp; omega
      cases cp
      · rw [if_neg (by rintro (h | ⟨h, _⟩); exact hd h; cases h)]
        have HO := Lib.hid hO
        generalize a / ext = q at *
        clear hd h hO hq
        go_enter Try.func16, Try.ntmps16
        go_wp2_with fail
        go_ret
        exact ⟨rfl, HO.out, (Fr.refl _ W).set (.inl (.inr (.inl rfl))) _⟩
      · rw [if_pos (.inr ⟨rfl, hq⟩)]
        have HO := Lib.hid (hO.setN a v)
        generalize a / ext = q at *
        clear hd h hO hq
        go_enter Try.func16, Try.ntmps16
        go_wp2_with fail
        go_ret
        exact ⟨rfl, HO.out, ((Fr.refl _ W).set (.inl (.inr (.inl rfl))) _).set (.inl (.inr (.inr rfl))) _⟩
    · rw [if_neg (by rintro (h | ⟨_, h⟩); exact hd h; exact hq h)]
      have t5 : (((a / ext : Nat) : Int) == (done : Int)) = false := by simp; omega
      have HO := Lib.hid hO
      generalize a / ext = q at *
      clear hd h hO hq
      go_enter Try.func16, Try.ntmps16
      go_wp2_with fail
      go_ret
      exact ⟨rfl, HO.out, (Fr.refl _ W).set (.inl (.inr (.inl rfl))) _⟩

set_option maxRecDepth 100000 in
set_option maxHeartbeats 2000000 in
theorem rfadv_any (W : World) (rb bO cO bN cN n ext done : Nat) (cp : Bool) (old new : List Nat) (h : RF W rb bO cO bN cN n ext done cp old new) (hd : done ≤ 1000000) :
    Calls Try.prog 20 #[.pointer (some ⟨rb, 0, none⟩)] W fun e w' => (cp = false → e = .returned (.int .i64 28) ∧ W = w') ∧ (cp = true → RFP W rb bO cO bN cN n ext (done + 1) false old new 0 e w') := by
  obtain ⟨x0, x1, x2, x3, x4⟩ := h.cells
  cases cp
  · go_enter Try.func20, Try.ntmps20
    go_wp2_with fail
    go_ret
    exact ⟨fun _ => ⟨rfl, rfl⟩, (fun e => by cases e)⟩
  · have e1 : IntKind.i64.wrap ((done : Int) + 1) = ((done + 1 : Nat) : Int) := IntWalk.i64_in _ (by omega)
    have hc : ((done + 1 : Nat) : Int) = (done : Int) + 1 := rfl
    have h3 := h.setD (done + 1)
    rw [hc] at h3 e1
    have h4 := h3.setC false
    have f3 := h.ref.free 3
    have f4 := h3.ref.free 4
    have y4 : (W.setCell ⟨rb, 3, none⟩ (.int .i64 ((done : Int) + 1))).cell? ⟨rb, 4, none⟩ = some (.bool true) := h3.ref.cell 4
    have H4 := Lib.hid h4
    clear h3 h4 hc
    go_enter Try.func20, Try.ntmps20
    go_wp2_with fail
    go_ret
    exact ⟨(fun e => by cases e), fun _ => ⟨rfl, H4.out, ((Fr.refl _ W).set (.inl (.inl rfl)) _).set (.inl (.inl rfl)) _⟩⟩

set_option maxRecDepth 100000 in
set_option maxHeartbeats 4000000 in
theorem rfcopy_no (W : World) (rb bO cO bN cN n ext done : Nat) (cp : Bool) (old new : List Nat) (h : RF W rb bO cO bN cN n ext done cp old new) (he : 1 ≤ ext) (hn : n ≤ 65536) (hc : cp = true ∨ done = n / ext) :
    Calls Try.prog 18 #[.pointer (some ⟨rb, 0, none⟩)] W fun e w' => e = .returned (.int .i64 28) ∧ Below W.heap.size W w' := by
  obtain ⟨x0, x1, x2, x3, x4⟩ := h.cells
  have e1 := div_wrap n ext (by omega)
  have t0 : ¬ (ext : Int) = 0 := by omega
  have t0n : ¬ ext = 0 := by omega
  clear h
  cases cp
  · have hd : done = n / ext := by simpa using hc
    have t4 : ((done : Int) == ((n / ext : Nat) : Int)) = true := by simp; omega
    clear hc
    generalize n / ext = q at *
    clear hd
    go_enter Try.func18, Try.ntmps18
    go_wp2_with fail
    go_quiet (fail)
    go_wp2_with fail
    go_ret
    exact ⟨rfl, below_drewN (Below.refl _ _) _⟩
  · clear hc
    go_enter Try.func18, Try.ntmps18
    go_wp2_with fail
    go_quiet (fail)
    go_wp2_with fail
    go_ret
    exact ⟨rfl, below_drewN (Below.refl _ _) _⟩
theorem cpL_old (old new : List Nat) (a k : Nat) : cpL old new a (k + 1) = (cpL old new a k).set (a + k) (old[a + k]?.getD 0) := rfl
set_option maxRecDepth 100000 in
set_option maxHeartbeats 4000000 in
theorem rfcopy_any (W : World) (rb bO cO bN cN n ext done : Nat) (old new : List Nat) (h : RF W rb bO cO bN cN n ext done false old new) (he : 1 ≤ ext) (hn : n ≤ 65536) (hd : done < n / ext) :
    Calls Try.prog 18 #[.pointer (some ⟨rb, 0, none⟩)] W (RFP W rb bO cO bN cN n ext done true old (cpL old new (done * ext) ext) 0) := by
  obtain ⟨x0, x1, x2, x3, x4⟩ := h.cells
  have hlim : done * ext + ext ≤ n := by
    have := Nat.div_mul_le_self n ext
    have h2 : (done + 1) * ext ≤ n / ext * ext := Nat.mul_le_mul_right _ hd
    rw [Nat.add_mul, Nat.one_mul] at h2
    omega
  have hdl : done ≤ n := by have := Nat.div_le_self n ext; omega
  have e1 := div_wrap n ext (by omega)
  have t0 : ¬ (ext : Int) = 0 := by omega
  have t0n : ¬ ext = 0 := by omega
  have t4 : ((done : Int) == ((n / ext : Nat) : Int)) = false := by simp; omega
  have e2 : IntKind.i64.wrap ((done : Int) * (ext : Int)) = ((done * ext : Nat) : Int) := by rw [← Int.natCast_mul]; generalize done * ext = z at *; rw [IntWalk.i64_in _ (by omega)]
  have e3 : IntKind.i64.wrap ((done : Int) + 1) = (done : Int) + 1 := IntWalk.i64_in _ (by omega)
  have e4 : IntKind.i64.wrap (((done : Int) + 1) * (ext : Int)) = ((done * ext + ext : Nat) : Int) := by
    rw [show ((done : Int) + 1) * (ext : Int) = ((done * ext + ext : Nat) : Int) by push_cast; rw [Int.add_mul, Int.one_mul]]
    generalize done * ext = z at *
    rw [IntWalk.i64_in _ (by omega)]
  have HR := Lib.hid h
  clear h
  generalize n / ext = q at *
  generalize done * ext = z at *
  go_enter Try.func18, Try.ntmps18
  go_wp2_with fail
  go_quiet (fail)
  go_wp2_with fail
  obtain ⟨nq_1, hnq1⟩ : ∃ k : Nat, k = nq := ⟨_, rfl⟩
  subst hnq1
  go_quiet (fail)
  go_wp2_with fail
  have hb0 := below_drewN (below_drewN (Below.refl W.heap.size W) nq_1) nq
  go_loopw [3] (fun s wx => ∃ k : Nat, s = .int .i64 ((z : Int) + (k : Int)) ∧ k ≤ ext ∧ RF wx rb bO cO bN cN n ext done false old (cpL old new z k) ∧ Fr (fun j => j = rb ∨ j = bO ∨ j = bN) W wx) (fun s _ => z + ext - (intOf s).toNat)
  case atStart => exact ⟨0, by simp, Nat.zero_le _, HR.out.keep hb0, Fr.of_below hb0⟩
  case round =>
    rename World => wx
    clear hb0 HR x0 x1 x2 x3 x4
    obtain ⟨k, rfl, hk, hr, hf⟩ := hrel
    obtain ⟨x0, x1, x2, x3, x4⟩ := hr.cells
    have HR := Lib.hid hr
    have HF := Lib.hid hf
    clear hr hf
    by_cases hlt : k < ext
    · have t1 : (z : Int) + (k : Int) < ((z + ext : Nat) : Int) := by omega
      have e5 : IntKind.i64.wrap ((z : Int) + (k : Int) + 1) = (z : Int) + (k : Int) + 1 := IntWalk.i64_in _ (by omega)
      go_wp2_with fail
      go_quiet (fail)
      have HR1 := Lib.hid (HR.out.keep (below_drewN (Below.refl _ wx) nq))
      have HF1 : Hid (Fr (fun j => j = rb ∨ j = bO ∨ j = bN) W (wx.drewN nq)) := Fr.drewN HF.out nq
      clear x0 x1 x2 x3 x4 HR HF
      generalize wx.drewN nq = w1 at *
      obtain ⟨x0, x1, x2, x3, x4⟩ := HR1.out.cells
      obtain ⟨y0, y1⟩ := HR1.out.o (z + k) (by omega)
      obtain ⟨z0, z1⟩ := HR1.out.n_ (z + k) (by omega)
      have hc1 : ((z : Int) + (k : Int)).toNat = z + k := by omega
      have hc2 : (0 : Int) ≤ (z : Int) + (k : Int) := by omega
      have hc3 : (z : Int) + (k : Int) < (n : Int) := by omega
      go_wp2_with fail
      go_region
      have HR2 := Lib.hid ((HR1.out.setN (z + k) (old[z + k]?.getD 0)).keep (Below.refl _ _).drew)
      have HF2 : Hid (Fr (fun j => j = rb ∨ j = bO ∨ j = bN) W (w1.setCell ⟨bN, z + k, none⟩ (.int .u64 ((old[z + k]?.getD 0 : Nat) : Int))).drew) := (HF1.out.set (.inl (.inr (.inr rfl))) _).drew
      clear x0 x1 x2 x3 x4 y0 y1 z0 z1 HR1 HF1
      generalize (w1.setCell ⟨bN, z + k, none⟩ (.int .u64 ((old[z + k]?.getD 0 : Nat) : Int))).drew = w2 at *
      go_wp2_with fail
      go_roundw
      case rel => exact ⟨k + 1, by simp; omega, by omega, HR2.out, HF2.out⟩
      case measure => simp [intOf]; omega
    · have hkn : k = ext := by omega
      subst hkn
      have t1 : ¬ (z : Int) + (k : Int) < ((z + k : Nat) : Int) := by omega
      have f4 := HR.out.ref.free 4
      go_wp2_with fail
      go_quiet (fail)
      have HR1 := Lib.hid (HR.out.keep (below_drewN (Below.refl _ wx) nq))
      have HF1 : Hid (Fr (fun j => j = rb ∨ j = bO ∨ j = bN) W (wx.drewN nq)) := Fr.drewN HF.out nq
      clear x0 x1 x2 x3 x4 HR HF f4
      generalize wx.drewN nq = w1 at *
      obtain ⟨x0, x1, x2, x3, x4⟩ := HR1.out.cells
      have f4 := HR1.out.ref.free 4
      have H4 := Lib.hid (HR1.out.setC true)
      go_wp2_with fail
      go_ret
      exact ⟨rfl, H4.out, HF1.out.set (.inl (.inl rfl)) _⟩

end Go.Proofs.Ytpcjdmbnlhjlaaa
